/- Part of a proof. No condition. -/
import Derived.Test.YtofacoojpgkbiaaCCalP19
set_option linter.unusedVariables false
set_option maxHeartbeats 8000000
set_option linter.unusedSimpArgs false
namespace Go.Proofs.Ytofacoojpgkbiaa.SB
open Go.Conc Go.RowKit
open Go.ConcN (upd upd_ne upd_same)
set_option maxRecDepth 100000
def zcm(_:ByteArray):Prop:=True
def KeptI(w:World)(p:Option Addr)(v:ByteArray):Prop:=p=none∧v=⟨#[]⟩∨∃kb,p=some ⟨kb,0,none⟩∧w.heap[kb]?=some (.cells #[.string v,.int .i64 0] 248 (0,0))
theorem KeptI.conv{w:World}{p:Option Addr}{v:ByteArray}(h:KeptI w p v):(convert 56 171 (.pointer p)).run Try.prog w = .ok (.pointer p) w:=by
 rcases h with⟨rfl,_⟩|⟨kb,rfl,hk⟩
 ·exact ztr 56 171 248 (by kernel_rfl) (by kernel_rfl) w
 ·exact zqp 56 171 248 (by kernel_rfl) (by kernel_rfl) (n:=2) (by kernel_rfl) (by kernel_rfl) (by kernel_rfl) hk rfl
theorem KeptI.back{w:World}{p:Option Addr}{v:ByteArray}(h:KeptI w p v):(convert 171 56 (.pointer p)).run Try.prog w = .ok (.pointer p) w:=by
 rcases h with⟨rfl,_⟩|⟨kb,rfl,hk⟩
 ·exact zf1 171 56 248 (by kernel_rfl) (by kernel_rfl) w
 ·exact run_convert_to_unsafe (P:=Try.prog) (t:=248) (by kernel_rfl) (by kernel_rfl) (by kernel_rfl) (zab hk 0)
theorem KeptI.keep{w w':World}{p:Option Addr}{v:ByteArray}(h:KeptI w p v)(hk:∀b,p=some ⟨b,0,none⟩→w'.heap[b]?=w.heap[b]?):KeptI w' p v:=by
 rcases h with h|⟨kb,e,h⟩
 ·exact .inl h
 ·exact .inr ⟨kb,e,(hk kb e).trans h⟩
theorem ptrLoadI(b o:Nat){p:Option Addr}{v:ByteArray}(w:World)(hc:w.cell? ⟨b,o,none⟩=some (.pointer p))(hk:KeptI w p v) :
  Calls Try.prog 145 #[.pointer (some ⟨b,o,none⟩)] w fun e w'=>e = .returned (.pointer p)∧w=w':=by
 have hl:=zs8 hc;have hcv:=hk.conv;clear hk hc;go_enter Try.func145,Try.ntmps145
 go_wp2
 go_ret
 exact⟨rfl,rfl⟩
theorem ptrStoreI(b o:Nat){p q:Option Addr}{v:ByteArray}(w:World)(hc:w.cell? ⟨b,o,none⟩=some (.pointer p))(hf:w.frozen? ⟨b,o,none⟩=false)(hk:KeptI w q v) :
  Calls Try.prog 144 #[.pointer (some ⟨b,o,none⟩),.pointer q] w fun e w'=>e = .returned (.tuple #[])∧w.setCell ⟨b,o,none⟩ (.pointer q)=w':=by
 have hl:=zpv (y:=q) hc hf;have hcv:=hk.back;clear hk hc;go_enter Try.func144,Try.ntmps144
 go_wp2
 go_end0
 exact⟨rfl,rfl⟩
theorem valueI_walk{p:Option Addr}{v:ByteArray}(w:World)(hk:KeptI w p v):Calls Try.prog 146 #[.pointer p] w fun e w'=>e = .returned (.string v)∧w=w':=by
 rcases hk with⟨rfl,rfl⟩|⟨kb,rfl,hk⟩
 ·go_enter Try.func146,Try.ntmps146
  go_wp2
  go_ret
  exact⟨rfl,rfl⟩
 ·have hc:=zab hk 0;simp only[yac,yaa] at hc;go_enter Try.func146,Try.ntmps146
  go_wp2
  go_ret
  exact⟨rfl,rfl⟩
theorem heldI_walk{p:Option Addr}{v:ByteArray}{of:Value}(w:World)(hk:KeptI w p v)(ho:∃q,of = .pointer q):Calls Try.prog 92 #[.agg #[.pointer p,of]] w fun e w'=>e = .returned (.string v)∧w.alloc (.cells #[.pointer p,of] 173)=w':=by
 obtain⟨q,rfl⟩:=ho;have hv:=valueI_walk _ (hk.keep (w':=w.alloc (.cells #[.pointer p,.pointer q] 173)) fun b e=>by
  rcases hk with⟨e1,_⟩|⟨kb,e1,h⟩
  ·rw[e1] at e;cases e
  ·rw[e1] at e;cases e;exact Below.heap_alloc _ _ _ (yah.1 h).1)
 clear hk;go_enter Try.func92,Try.ntmps92
 go_wp2_with (go_at_call 146;refine hv.mono ?_;rintro e w' ⟨rfl,rfl⟩)
 go_ret
 exact⟨rfl,rfl⟩
theorem zbc:Prg true Try.prog (·∈[92,94,144,145,146]):=zgq zag (by kernel_rfl) (by kernel_rfl) (by kernel_rfl)
def HeldC(own:Nat→Owner)(hp:Array Obj)(i s:Nat)(v:ByteArray)(p:Option Addr):Prop :=
 zcm v∧((s=0∧v=⟨#[]⟩∧p=none)∨(0<s∧∃kb,p=some ⟨kb,0,none⟩∧own kb = .tag (zhj i s+2)∧hp[kb]?=some (.cells #[.string v,.int .i64 0] 248 (0,0))))
theorem HeldC.keep{own own':Nat→Owner}{hp hp':Array Obj}{i s:Nat}{v:ByteArray}{p:Option Addr}(h:HeldC own hp i s v p)(hk:∀b v,0<v→own b = .tag v→own' b = .tag v∧hp'[b]?=hp[b]?):HeldC own' hp' i s v p:=by
 obtain⟨h1,h|⟨h0,kb,e1,e2,e3⟩⟩:=h
 ·exact⟨h1,.inl h⟩
 ·exact⟨h1,.inr ⟨h0,kb,e1,(hk _ _ (by omega) e2).1,(hk _ _ (by omega) e2).2.trans e3⟩⟩
theorem HeldC.kept{own:Nat→Owner}{hp:Array Obj}{i s:Nat}{v:ByteArray}{p:Option Addr}{w:World}(h:HeldC own hp i s v p)(hw:∀b,(∃v,own b = .tag v)→w.heap[b]?=hp[b]?):KeptI w p v:=by
 obtain⟨_,⟨_,rfl,rfl⟩|⟨_,kb,rfl,e2,e3⟩⟩:=h
 ·exact .inl ⟨rfl,rfl⟩
 ·exact .inr ⟨kb,rfl,(hw kb ⟨_,e2⟩).trans e3⟩
structure BoxS where
 v:ByteArray
 ser:Nat
 top:Nat
structure BAt(i b:Nat)(V:BoxS)(own:Nat→Owner)(w:World):Prop where
 sh:own b = .sh
 cell:∃p,w.heap[b]?=some (.cells #[.pointer p] 245 (0,0))∧HeldC own w.heap i V.ser V.v p
 inj:∀b b' t,own b = .tag (t+2)→own b' = .tag (t+2)→b=b'
 top:∀b t,own b = .tag (t+2)→t / 65536≤V.top
theorem BAt.keep{i b:Nat}{V:BoxS}{own own':Nat→Owner}{w w':World}(h:BAt i b V own w)(hk:own' b = .sh∧w'.heap[b]?=w.heap[b]?)(ht:∀b v,0<v→own b = .tag v→own' b = .tag v∧w'.heap[b]?=w.heap[b]?)(hn:∀b v,own' b = .tag v→own b = .tag v∨v≤1):BAt i b V own' w':=by
 obtain⟨a,⟨p,c1,c2⟩,f,g⟩:=h;have hh:∀b t,own' b = .tag (t+2)→own b = .tag (t+2):=fun b t hb=>(hn b _ hb).resolve_right (by omega);exact⟨hk.1,⟨p,hk.2.trans c1,c2.keep ht⟩,fun b b' t q1 q2=>f b b' t (hh _ _ q1) (hh _ _ q2),fun b t q=>g b t (hh _ _ q)⟩
def BoxS.lay(V:BoxS)(v:ByteArray):BoxS:=⟨v,V.top+1,V.top+1⟩
section
variable{S:Type}{md:Md (SM S)}{L:zco S BoxS}{i gb:Nat}{A:Nat→Prop}{w₀:W0 (SM S)}{c:Frame}{cs:List Frame}{x:md.β}{own:Nat→Owner}{w w1:World}{m:SM S}
theorem zi9(O:md.Ok)(Pt:Part md L (BAt i gb) gb TS2)(hi:i<65536)(C:md.C x own A w₀ w m){kb:Nat}{v:ByteArray}(hv:zcm v)(ok:own kb = .th md.i∨w.heap.size≤kb)(hkl:kb<w1.heap.size)(ek:w1.heap[kb]?=some (.cells #[.string v,.int .i64 0] 248 (0,0)))
  (hs:w.heap.size≤w1.heap.size) (hn:∀b,w.heap.size≤b→b<w1.heap.size→b=kb) (hk:∀b,b<w.heap.size→b≠gb→w1.heap[b]?=w.heap[b]?) (hg:w1.heap[gb]?=some (.cells #[.pointer (some ⟨kb,0,none⟩)] 245 (0,0))) (hA:∀b,A b→b≠kb) :
  md.C x (zq5 kb (zhj i ((L.get m.st).top+1)) own) A w₀ w1 (m.with (L.put ((L.get m.st).lay v) m.st))∧OwnStep md.i own (zq5 kb (zhj i ((L.get m.st).top+1)) own) w.heap.size∧Frm md.i own w w1:=by
 have hG:=Pt.rep C.rep;have og:=hG.sh;generalize htp:(L.get m.st).top=tp at *;generalize htg:zhj i (tp+1)=tg;have hold:∀b,b≠kb→zq5 kb tg own b=own b:=fun b hb=>if_neg hb;have hkb:zq5 kb tg own kb = .tag (tg+2):=if_pos rfl;have pub:∀b,own b = .sh∨(∃v,own b = .tag v)→b≠kb∧b<w.heap.size:=fun b hb=>by
  have qr:=C.lt (b:=b) (by rcases hb with z|⟨v,z⟩<;>rw[z]<;>simp);refine⟨fun z=>?_,qr⟩;rcases ok with q|q
  ·rw[z,q] at hb;rcases hb with z|⟨v,z⟩<;>cases z
  ·omega
 obtain⟨ngk,hgl⟩:=pub gb (.inl og);have htag:∀b t,own b = .tag t→zq5 kb tg own b = .tag t∧w1.heap[b]?=w.heap[b]?:=fun b t hb=>by
  obtain⟨h1,h2⟩:=pub b (.inr ⟨t,hb⟩);exact⟨(hold b h1).trans hb,hk b h2 fun z=>by rw[z,og] at hb;cases hb⟩
 have hnew:∀b t,b≠kb→zq5 kb tg own b = .tag t→own b = .tag t:=fun b t hb h=>by rwa[hold b hb] at h
 have htk:∀t,zq5 kb tg own kb = .tag (t+2)→t=tg:=fun t h=>by rw[hkb] at h;cases h;rfl
 have hdiv:tg / 65536=tp+1:=by rw[←htg];exact zsv hi
 refine C.turn O (fun b=>?_) hs (fun b h1 _ h3=>hk b h1 fun z=>h3 (z▸og)) (fun b hb=>?_) (Pt.upd C.rep ⟨fun b h1 h2=>⟨(hold b (pub b (.inl h1)).1).trans h1,hk b (pub b (.inl h1)).2 h2⟩,htag,fun b t hb=>?_⟩ ⟨(hold gb ngk).trans og,⟨_,hg,hv,.inr ⟨Nat.succ_pos _,kb,rfl,?_,ek⟩⟩,fun b b' t h1 h2=>?_,fun b t h1=>?_⟩) (fun b hb=>?_) C.pv fun b t hb=>?_
 ·by_cases e:b=kb
  ·subst e;exact .inr ⟨ok.elim (fun z => .inr (.inl z)) .inl,.inr (hkb ▸ .inr ⟨_,rfl⟩)⟩
  ·exact .inl (hold b e)
 ·rw[hold b (by omega)];exact C.fresh b (by omega)
 ·by_cases e:b=kb
  ·subst e;rw[hkb] at hb;cases hb;exact .inr (.inr (by show 2≤tg+2;omega))
  ·exact .inl (hnew b t e hb)
 ·show zq5 kb tg own kb = .tag (zhj i ((L.get m.st).top+1)+2);rw[htp,htg];exact hkb
 ·by_cases e:b=kb<;>by_cases e':b'=kb
  ·rw[e,e']
  ·subst e;have:=hG.top b' t (hnew b' _ e' h2);rw[htk t h1] at this;rw[htp] at this;omega
  ·subst e';have:=hG.top b t (hnew b _ e h1);rw[htk t h2] at this;rw[htp] at this;omega
  ·exact hG.inj b b' t (hnew b _ e h1) (hnew b' _ e' h2)
 ·show t / 65536≤(L.get m.st).top+1;rw[htp];by_cases e:b=kb
  ·subst e;rw[htk t h1];omega
  ·have:=hG.top b t (hnew b _ e h1);rw[htp] at this;omega
 ·obtain⟨h1,h2⟩:=C.mine b hb;have qr:=C.lt (b:=b) (by rw[h1];simp);exact⟨(hold b (hA b hb)).trans h1,(hk b qr fun z=>by rw[z,og] at h1;cases h1).trans h2⟩
 ·obtain⟨a1,a2⟩:=C.tg b t hb;exact⟨(htag b t a1).1,(htag b t a1).2.trans a2⟩
def xloadF(L:zco S BoxS)(κ:Nat→ByteArray→Fu (SM S)):Fu (SM S):=stepF fun m=>κ (L.get m.st).ser (L.get m.st).v m
theorem xload_cps(O:md.Ok)(Pt:Part md L (BAt i gb) gb TS2){κ:Nat→ByteArray→Fu (SM S)}(qq:md.End A w₀ c cs)
  (qu:∀s v p A₁ w₁,Less md.i A w₀ A₁ w₁→HeldC w₁.own w₁.heap i s v p→md.F (κ s v) A₁ w₁ (G (c.finish (.agg #[.pointer p,gpv gb])) cs)):md.F (xloadF L κ) A w₀ (G (Frame.enter Try.prog 91 #[gpv gb,md.sv] .normal) (c::cs)):=by
 intro x own w m C;unfold gpv;rw[enter_at _ Try.func91 rfl];simp only[Try.ntmps91,yan,yau,yav,Nat.reduceAdd,Nat.reduceSub,yao,
   yap,yaq,yar,yas,yat]
 generalize qw:xloadF L κ m=mc;replace qw:=yay qw;replace qu:=yay qu;refine zaf (O.xc ..) fun R0 qv=>?_;refine O.segA C zbc (zac zag (by kernel_rfl)) rfl (zaa Try.func91) rfl fun wp hp=>?_;obtain⟨N,hN⟩:∃N,w.heap.size=N:=⟨_,rfl⟩;have qp:wp.heap.size=N:=by rw[hp.heap,zaw];exact hN
 replace qp:=yay qp;replace hp:=yay hp;replace hN:=yay hN
 go_wp2_with fail
 rw[qp.out];refine fun w1 q1 q2 q3=>O.one C hp.out rfl hN.out q1 q2 q3 fun qm C1 e1 s1 o1 L1 low=>?_;clear q1 q2 q3 hp qp wp;obtain rfl:=qv.out;clear qv;refine zaf (O.xc ..) fun R0 qv=>?_;refine zaf (O.xc ..) fun R1 qs=>?_;refine O.seg0 C1 zbc (zac zag (by kernel_rfl)) rfl (zaa Try.func91) rfl fun wp hp=>?_;replace hp:=yay hp
 go_wp2_with fail
 refine⟨hp.out,?_⟩;clear hp  wp;obtain rfl:=qs.out;clear qs;refine zau (O.xc ..) (t:=false) rfl ?_;refine zbf (O.xc ..) ?_;obtain rfl:=qv.out;clear qv;refine zaf (O.xc ..) fun R0 qv=>?_;refine za5 (O.xc ..) 1 (by decide) (by decide) (zai (by kernel_rfl)) (C1.st O) fun wp hp=>?_;simp only[yad,yae];replace hp:=yay hp
 go_wp2_with fail
 refine zae hp.out (C1.st O).okd ?_;clear hp  wp;refine zap (O.xc ..) rfl rfl (by decide) rfl Try.func108 (by kernel_rfl) (by kernel_rfl) ?_;walk_nrm;obtain rfl:=qw.out;clear qw;refine O.cstep (.inr rfl) (O.endUp (zaa Try.func91) rfl rfl (O.endMore qq L1)) (fun hst x2 qk w2 m2 C2=>?_) C1;rw[Frame.finish_at];obtain⟨oN,q2⟩:=C2.mine N o1;have eN:=q2.trans e1;have C2':=C2.less L1;have nA:¬A N:=fun z=>by
  have:=(C.mine N z).1;rw[C.fresh N (by rw[hN.out];exact yax _)] at this;cases this
 have hA:Less md.i A w₀ (fun b=>qm b = .th md.i) ⟨w1.heap,m,qm⟩:=L1;clear q2 e1 s1 low o1 C1 C;refine zad (O.xc ..) ?_;obtain rfl:=qv.out;clear qv;refine zaf (O.xc ..) fun R0 qv=>?_;have hG:=Pt.rep C2.rep;obtain⟨p,c1,c5⟩:=hG.cell;have og:=hG.sh;generalize hs:(L.get m2.st).ser=s at *;generalize hl:(L.get m2.st).v=v at *;generalize qw:κ s v m2=mc;replace qw:=yay qw;refine O.segA C2 zbc (zac zag (by kernel_rfl)) rfl (zaa Try.func91) rfl fun wp hp=>?_;have hD:md.D gb=none:=C2.dm O (by rw[og];simp);have hDN:md.D N=none:=C2.dm O (by rw[oN];simp);have g1:=(za8 hp hD).trans c1;have gN:=(za8 hp hDN).trans eN;have hc:=zab g1 0;have hk:=c5.kept (w:=wp) fun b ⟨v,hb⟩=>za8 hp (C2.dm O (by rw[hb];simp));have n0:=zab gN 0;have n1:=zab gN 1;have z0:=zam gN 0;have z1:=zam gN 1;simp only[yac,yaa,yab] at n0 n1 hc;have hl:=ptrLoadI gb 0 wp hc hk;clear hk hc;replace gN:=yay gN;replace g1:=yay g1;replace hp:=yay hp;replace c5:=yay c5
 go_wp2_with (go_at_call 145;refine hl.mono ?_;rintro e w' ⟨rfl,rfl⟩)
 refine fun w3 q1 q2 q3=>?_;have e3:w3.heap[N]?=some (.cells #[.pointer p,.pointer (some ⟨gb,0,none⟩)] 173 (0,0)):=(q1 N hDN).trans (zwm gN.out rfl _ _);have k3:∀b,b≠N→w3.heap[b]?=w2.heap[b]?:=fun b hb=>q2 b (by rw[Below.heap_setCell _ _ _ _ hb,Below.heap_setCell _ _ _ _ hb]);have s3:w3.heap.size=w2.heap.size:=by rw[q3];simp[World.setCell,hp.out.heap,zaw]
 clear q1 q2 q3 hl n0 n1 z0 z1 gN g1 hp wp;obtain⟨C3,F3⟩:=C2'.wrote O oN nA s3 k3;obtain rfl:=qv.out;clear qv;refine zc0 (O.xc ..) ?_;refine za4 (O.xc ..) (zaa Try.func91) (C3.st O) (v := .agg #[.pointer p,.pointer (some ⟨gb,0,none⟩)]) ⟨rfl,rfl,rfl,_,Try.func91,?_⟩ ?_
 ·exact results_cell_row rfl _ _ N 173 _ (0,0) _ rfl ((za8 (.refl _) hDN).trans e3) Try.underlying173 rfl (by kernel_rfl)
 ·obtain rfl:=qw.out;exact O.next (qu.out s v p _ _ C3.allLess (c5.out.keep fun b t _ q=>⟨q,k3 b fun z=>by rw[z,oN] at q;cases q⟩)) C3.all .refl F3
end
def xcasP{S:Type}(L:zco S BoxS)(s:Nat)(v:ByteArray)(κ:Bool→Fu (SM S)):Fu (SM S):=fun m=>if (L.get m.st).ser=s then κ true (m.with (L.put ((L.get m.st).lay v) m.st)) else κ false m
section
variable{S:Type}{md:Md (SM S)}{L:zco S BoxS}{i gb:Nat}{A:Nat→Prop}{w₀:W0 (SM S)}{c:Frame}{cs:List Frame}{x:md.β}{own:Nat→Owner}{w w1:World}{m:SM S}
theorem zjt{V:BoxS}{s:Nat}{l:ByteArray}{p p0:Option Addr}(hG:BAt i gb V own w)(h:HeldC own w.heap i V.ser V.v p)(h0:HeldC own w.heap i s l p0) :
  (∀d,(samePointer p p0).run Try.prog (w.at d) = .ok (V.ser==s) (w.at d))∧∀d es,(samePointer p p0).events Try.prog (w.at d) es=es:=by
 rcases h with⟨_,⟨h1,_,rfl⟩|⟨h1,kb,rfl,h2,h3⟩⟩<;>rcases h0 with⟨_,⟨k1,_,rfl⟩|⟨k1,kb',rfl,k2,k3⟩⟩
 ·refine⟨fun d=>?_,fun d es=>?_⟩
  ·rw[h1,k1];rfl
  ·rfl
 ·refine⟨fun d=>?_,fun d es=>?_⟩
  ·have:(V.ser==s)=false:=by simp;omega
   rw[this];rfl
  ·rfl
 ·refine⟨fun d=>?_,fun d es=>?_⟩
  ·have:(V.ser==s)=false:=by simp;omega
   rw[this];rfl
  ·rfl
 ·refine⟨fun d=>?_,fun d es=>zxm (w:=w.at d) h3 k3 (by simp) (by simp) es⟩;rw[zsz (w:=w.at d) h3 k3 (by simp) (by simp)];congr 1;by_cases e:V.ser=s
  ·have:kb=kb':=hG.inj kb kb' (zhj i s) (by rw[h2,e]) k2;rw[this,e];simp
  ·have:kb≠kb':=fun z=>by
    rw[z,k2] at h2;simp only[Owner.tag.injEq] at h2;unfold zhj at h2;omega
   have e1:(kb==kb')=false:=by simpa using this
   have e2:(V.ser==s)=false:=by simpa using e
   rw[e1,e2]
theorem zra(O:md.Ok)(Pt:Part md L (BAt i gb) gb TS2)(hi:i<65536)(C:md.C x own A w₀ w m){κ:Bool→Fu (SM S)}{kb s:Nat}{v l0:ByteArray}{p0:Option Addr}(hv:zcm v)(ok:own kb = .th md.i)(ek:w.heap[kb]?=some (.cells #[.string v,.int .i64 0] 248 (0,0)))(h0:HeldC own w.heap i s l0 p0)
  (hA:∀b,A b→b≠kb) (qu:∀t,md.F (κ t) A w₀ (G (c.finish (.bool t)) cs)):md.GO x own w (xcasP L s v κ m) (G (Frame.enter Try.prog 147 #[gpv gb,.pointer p0,gpv kb] .normal) (c::cs)) w:=by
 unfold gpv;rw[enter_at _ Try.func147 rfl];simp only[Try.ntmps147,yan,yau,yav,Nat.reduceAdd,Nat.reduceSub,yao,
   yap,yaq,yar,yas,yat]
 generalize qw:xcasP L s v κ m=mc;replace qw:=yay qw;replace qu:=yay qu;have hG:=Pt.rep C.rep;obtain⟨p,c1,c5⟩:=hG.cell;have og:=hG.sh;have hsame:=zjt hG c5 h0;have hD:md.D gb=none:=C.dm O (by rw[og];simp);have hDk:md.D kb=none:=C.dm O (by rw[ok];simp);refine zaf (O.xc ..) fun R0 qv=>?_;refine O.seg0 C zbc (zac zag (by kernel_rfl)) rfl (zaa Try.func147) rfl fun wp hp=>?_;replace hp:=yay hp
 go_wp2_with fail
 refine⟨hp.out,?_⟩;clear hp wp;obtain rfl:=qv.out;clear qv;refine zaf (O.xc ..) fun R0 qv=>?_;refine za5 (O.xc ..) 7 (by decide) (by decide) (zai (by kernel_rfl)) (C.st O) fun wp hp=>?_;simp only[yad,yae];have hx1:(convert 171 56 (.pointer p0)).run Try.prog wp = .ok (.pointer p0) wp:=by
  rcases h0 with⟨_,⟨_,_,rfl⟩|⟨_,kb',rfl,k2,k3⟩⟩
  ·exact zf1 171 56 248 (by kernel_rfl) (by kernel_rfl) wp
  ·exact run_convert_to_unsafe (P:=Try.prog) (t:=248) (by kernel_rfl) (by kernel_rfl) (by kernel_rfl) (zab ((za8 hp (C.dm O (by rw[k2];simp))).trans k3) 0)
 have hx2:(convert 171 56 (.pointer (some ⟨kb,0,none⟩))).run Try.prog wp = .ok (.pointer (some ⟨kb,0,none⟩)) wp :=
  run_convert_to_unsafe (P:=Try.prog) (t:=248) (by kernel_rfl) (by kernel_rfl) (by kernel_rfl) (zab ((za8 hp hDk).trans ek) 0)
 replace hp:=yay hp;replace ek:=yay ek;replace c1:=yay c1
 go_wp2_with fail
 refine zae hp.out (C.st O).okd ?_;clear hp hx1 hx2 wp;refine z0t (O.xc ..) (C.st O) rfl rfl (by decide) rfl Try.func157 (by kernel_rfl) (by kernel_rfl) (by kernel_rfl) (by kernel_rfl) (ad:=⟨gb,0,none⟩) (v:=p) (old:=p0) (n:=some ⟨kb,0,none⟩) rfl rfl rfl (by rw[zab c1.out 0];rfl) (zam c1.out 0) hD hsame.1 hsame.2 ?_;walk_nrm;obtain rfl:=qw.out;clear qw;by_cases e:(L.get m.st).ser=s
 ·have e1:((L.get m.st).ser==s)=true:=by simpa using e
  have e2:xcasP L s v κ m=κ true (m.with (L.put ((L.get m.st).lay v) m.st)):=by unfold xcasP;rw[if_pos e]
  rw[e1,e2,if_pos rfl];clear e1 e2;replace e:=yay e;have qr:=C.lt (b:=kb) (by rw[ok];simp);have ngk:kb≠gb:=fun z=>by rw[z,og] at ok;cases ok
  have qp:(w.setCell ⟨gb,0,none⟩ (.pointer (some ⟨kb,0,none⟩))).heap.size=w.heap.size:=by simp[World.setCell]
  obtain⟨C3,hO,hF⟩:=zi9 O Pt hi C hv (w1:=w.setCell ⟨gb,0,none⟩ (.pointer (some ⟨kb,0,none⟩))) (.inl ok) (by omega) ((Below.heap_setCell _ _ _ _ ngk).trans ek.out) (by omega) (fun b h1 h2=>by omega) (fun b _ hb=>Below.heap_setCell _ _ _ _ hb) (zal c1.out 0 _) hA;refine O.rebase hO hF ?_;refine zbg (O.xc ..) 8 1 (by decide) (by decide) (zai (by kernel_rfl)) (C3.st O) fun wp hp=>?_;simp only[yaf,yag,yad,yae];replace hp:=yay hp
  go_wp2_with fail
  refine zae hp.out (C3.st O).okd ?_;refine zad (O.xc ..) ?_;obtain rfl:=qv.out;refine zc0 (O.xc ..) ?_;refine za4 (O.xc ..) (zaa Try.func147) (C3.st O) ⟨rfl,rfl,rfl,_,Try.func147,results_tmp rfl _ _ _⟩ ?_;exact qu.out true _ _ _ _ C3
 ·have e1:((L.get m.st).ser==s)=false:=by simpa using e
  have e2:xcasP L s v κ m=κ false m:=by unfold xcasP;rw[if_neg e]
  rw[e1,e2,if_neg (by simp)];clear e1 e2;replace e:=yay e;refine zbg (O.xc ..) 8 1 (by decide) (by decide) (zai (by kernel_rfl)) (C.st O) fun wp hp=>?_;simp only[yaf,yag,yad,yae];replace hp:=yay hp
  go_wp2_with fail
  refine zae hp.out (C.st O).okd ?_;refine zad (O.xc ..) ?_;obtain rfl:=qv.out;refine zc0 (O.xc ..) ?_;refine za4 (O.xc ..) (zaa Try.func147) (C.st O) ⟨rfl,rfl,rfl,_,Try.func147,results_tmp rfl _ _ _⟩ ?_;exact qu.out false _ _ _ _ C
end
def A56(x:Nat→Value):Act:=⟨#[x 0,x 1,x 2,x 3,x 4,x 5,x 6,x 7,x 8,x 9,x 10,x 11,x 12,x 13,x 14,x 15,x 16,x 17,x 18,x 19,x 20,x 21,x 22,x 23,x 24,x 25,x 26,x 27],[]⟩
theorem zyb(l:Array Value)(hl:l.size=28):(⟨l,[]⟩:Act)=A56 fun j=>l.getD j undef:=by
 have e:∀x:Nat→Value,(A56 x).tmps=((List.range 28).map x).toArray:=fun x=>rfl;have h1:l=(A56 fun j=>l.getD j undef).tmps:=by
  rw[e];apply Array.ext_getElem?;intro i;by_cases h:i<28
  ·have h':i<l.size:=by omega
   simp[h,h',List.getElem?_range]
  ·have h':¬i<l.size:=by omega
   rw[Array.getElem?_eq_none (by omega),Array.getElem?_eq_none (by simp;omega)]
 exact congrArg (Act.mk · []) h1
def z1w(gb N:Nat)(p0:Option Addr)(v:ByteArray):Nat→Option Value
 | 0=>some (.pointer (some ⟨N,1,none⟩))
 | 1=>some (gpv gb)
 | 2=>some (gpv gb)
 | 3=>some (.bool true)
 | 4=>some (.bool true)
 | 5=>some (gpv gb)
 | 6=>some (gpv gb)
 | 7=>some (gpv gb)
 | 8=>some (gpv N)
 | 9=>some (.pointer p0)
 | 10=>some (.string v)
 | 11=>some (.agg #[.string v,.int .i64 0])
 | _=>none
structure I56{S:Type}(md:Md (SM S))(gb N:Nat)(p0:Option Addr)(v:ByteArray)(y:md.β)(ql:Nat→Owner)(w0:World)(A:Nat→Prop)(w₀:W0 (SM S))(m:SM S)(qz:Array Bool)(x:Nat→Value)(own:Nat→Owner)(w:World):Prop where
 x0:x 0=gpv gb
 x3:x 3 = .string v
 x6:x 6=gpv N
 tab:Tab (z1w gb N p0 v) 13 qz x
 C:md.C y own A w₀ w m
 hO:OwnStep md.i ql own w0.heap.size
 hF:Frm md.i ql w0 w
 box:qz.getD 12 false=true→∃kb,x 25=gpv kb∧own kb = .th md.i∧w.heap[kb]?=some (.cells #[.string v,.int .i64 0] 248 (0,0))∧w0.heap.size≤kb
section
variable{S:Type}{md:Md (SM S)}{L:zco S BoxS}{ib gb N:Nat}{A:Nat→Prop}{w₀:W0 (SM S)}{c:Frame}{cs:List Frame}{p0:Option Addr}{v:ByteArray}{y:md.β}{ql own:Nat→Owner}{w0 w:World}{m:SM S}{qz:Array Bool}{x:Nat→Value}
theorem I56.put(h:I56 md gb N p0 v y ql w0 A w₀ m qz x own w){i:Nat}{u:Value}(hi:i<12)(ht:z1w gb N p0 v i=some u):I56 md gb N p0 v y ql w0 A w₀ m (qz.setIfInBounds i true) (upd x (13+i) u) own w :=
 ⟨by rw[upd_ne _ _ (by omega)];exact h.x0,by rw[upd_ne _ _ (by omega)];exact h.x3,by rw[upd_ne _ _ (by omega)];exact h.x6,h.tab.put (.inl ht),h.C,h.hO,h.hF,fun z=>by
  rw[upd_ne _ _ (by omega)];exact h.box ((zoi z).resolve_left (by omega))⟩
theorem zso{x:Nat→Value}{k:Nat}{v:Value}(hk:k<28):(A56 x).put (some k) v=A56 (upd x k v):=by
 have e:∀x:Nat→Value,(A56 x).tmps=((List.range 28).map x).toArray:=fun x=>rfl;have h1:((A56 x).put (some k) v).tmps=(A56 (upd x k v)).tmps:=by
  show(A56 x).tmps.setIfInBounds k v=_;rw[e,e];apply Array.ext_getElem?;intro i;by_cases h:i<28
  ·by_cases q:k=i
   ·subst q;rw[Array.getElem?_setIfInBounds_self_of_lt (by simp;omega)];simp[h,List.getElem?_range,upd_same]
   ·rw[Array.getElem?_setIfInBounds_ne q];simp[h,List.getElem?_range,upd_ne _ _ (Ne.symm q)]
  ·rw[Array.getElem?_eq_none (by simp;omega),Array.getElem?_eq_none (by simp;omega)]
 exact congrArg (Act.mk · []) h1
theorem I56.op(O:md.Ok)(hI:I56 md gb N p0 v y ql w0 A w₀ m qz x own w){ops:Array Oper}{i:Nat}{rest:List Nat}{o:Oper}{u:Value}{k:List Item}{csx:List Frame}{mc:SM S×Co (SM S)}(hi:i<12)(ho:ops[i]?=some o)(hd:o.dst=some (13+i))(hc:zcw true Try.prog (fun _=>False) o)(ht:z1w gb N p0 v i=some u)(hw:Region.wanted o (yielded ops (A56 x).tmps)=true)
  (hr:∀wp,Sim wp (poi md.D w)→(execOp (A56 x).eval o).run Try.prog wp = .ok (.value u) wp) (qy:∀a w',(∃x own,a=A56 x∧I56 md gb N p0 v y ql w0 A w₀ m (qz.setIfInBounds i true) x own w')→md.GO y ql w0 mc (G ((base 93).at a (.inRegion ops rest::k)) csx) w'):md.GO y ql w0 mc (G ((base 93).at (A56 x) (.inRegion ops (i::rest)::k)) csx) w:=by
 refine O.op1 hI.C ho hw (by decide) hc hr ?_;rw[hd,zso (by omega)];exact qy _ _ ⟨_,own,rfl,hI.put hi ht⟩
theorem xcas_cps(O:md.Ok)(Pt:Part md L (BAt ib gb) gb TS2)(hi':ib<65536){κ:Bool→Fu (SM S)}{s:Nat}{l0:ByteArray}(hv:zcm v)(h0:HeldC w₀.own w₀.heap ib s l0 p0)(qq:md.End A w₀ c cs)
  (qu:∀t,md.F (κ t) A w₀ (G (c.finish (.bool t)) cs)) :
  md.F (stepF (xcasP L s v κ)) A w₀ (G (Frame.enter Try.prog 93 #[gpv gb,md.sv,.agg #[.pointer p0,gpv gb],.string v] .normal) (c::cs)):=by
 intro x own w m C;unfold gpv;rw[enter_at _ Try.func93 rfl];simp only[Try.ntmps93,yan,yau,yav,Nat.reduceAdd,Nat.reduceSub,yao,
   yap,yaq,yar,yas,yat]
 generalize qw:stepF (xcasP L s v κ) m=mc;replace qw:=yay qw;replace qu:=yay qu;refine zaf (O.xc ..) fun R0 qv=>?_;refine O.segA C zbc (zac zag (by kernel_rfl)) rfl (zaa Try.func93) rfl fun wp hp=>?_;obtain⟨N,hN⟩:∃N,w.heap.size=N:=⟨_,rfl⟩;have qp:wp.heap.size=N:=by rw[hp.heap,zaw];exact hN
 replace qp:=yay qp;replace hp:=yay hp;replace hN:=yay hN
 go_wp2_with fail
 rw[qp.out];refine fun w1 q1 q2 q3=>O.one C hp.out rfl hN.out q1 q2 q3 fun qm C1 e1 s1 o1 L1 low=>?_;clear q1 q2 q3 hp qp wp;obtain rfl:=qv.out;clear qv;refine zaf (O.xc ..) fun R0 qv=>?_;refine zaf (O.xc ..) fun R1 qs=>?_;refine O.seg0 C1 zbc (zac zag (by kernel_rfl)) rfl (zaa Try.func93) rfl fun wp hp=>?_;replace hp:=yay hp
 go_wp2_with fail
 refine⟨hp.out,?_⟩;clear hp wp;obtain rfl:=qs.out;clear qs;refine zau (O.xc ..) (t:=false) rfl ?_;refine zbf (O.xc ..) ?_;obtain rfl:=qv.out;clear qv;refine zaf (O.xc ..) fun R0 qv=>?_;refine za5 (O.xc ..) 1 (by decide) (by decide) (zai (by kernel_rfl)) (C1.st O) fun wp hp=>?_;simp only[yad,yae];replace hp:=yay hp
 go_wp2_with fail
 refine zae hp.out (C1.st O).okd ?_;clear hp wp;refine zap (O.xc ..) rfl rfl (by decide) rfl Try.func108 (by kernel_rfl) (by kernel_rfl) ?_;walk_nrm;obtain rfl:=qw.out;clear qw;refine O.cstep (.inr rfl) (O.endUp (zaa Try.func93) rfl rfl (O.endMore qq L1)) (fun _ x2 qk w2 m2 C2=>?_) C1;rw[Frame.finish_at];have nA:¬A N:=fun z=>by
  have:=(C.mine N z).1;rw[C.fresh N (by rw[hN.out];exact yax _)] at this;cases this
 have C2':=C2.less L1;have hN2:N<w2.heap.size:=by
  obtain⟨z,_⟩:=C2.mine N o1;exact C2.lt (by rw[z];simp)
 clear low C s1;refine zad (O.xc ..) ?_;obtain rfl:=qv.out;clear qv;refine zaf (O.xc ..) fun R0 qv=>?_;generalize qw:xcasP L s v κ m2=mc;replace qw:=yay qw;have hk2:(base 93).kind ≠ .early:=by decide
 refine zht (O.xc ..) 13 [[13,14,15]] rfl (by kernel_rfl) (C2.st O) (fun qz a w=>∃x own,a=A56 x∧I56 md gb N p0 v x2 qk w2 (fun b=>qm b = .th md.i) ⟨w1.heap,m,qm⟩ m2 qz x own w) ?i0 ?ie ?ist
 case i0 =>
  exact⟨_,qk,zyb _ rfl,rfl,rfl,rfl,.zero,C2,.refl,.refl,fun z=>by rw[getD_replicate_false] at z;cases z⟩
 case ie =>
  rintro a w3 ⟨x,own3,rfl,hI⟩ r hr;obtain rfl:r=[13,14,15]:=by simpa using hr
  obtain⟨kb,hkb,okb,ekb,gkb⟩:=hI.box rfl;have t4:x 17 = .bool true:=hI.tab 4 _ rfl rfl;have t7:x 20=gpv gb:=hI.tab 7 _ rfl rfl;have t9:x 22 = .pointer p0:=hI.tab 9 _ rfl rfl;have x0:=hI.x0;have x3:=hI.x3;have x6:=hI.x6;unfold gpv at hkb t7 x0 x6;have C3':=hI.C.less L1;refine O.rebase hI.hO hI.hF ?_;unfold A56;simp only[x0,x3,x6,hkb,t4,t7,t9];refine zap (O.xc ..) rfl rfl (by decide) rfl Try.func147 (by kernel_rfl) (by kernel_rfl) ?_;walk_nrm;obtain rfl:=qw.out;have h3:HeldC own3 w3.heap ib s l0 p0:=h0.keep fun b t _ q=>C3'.tg b t q;have nAk:¬A kb:=fun z=>by
   have:=(C2'.mine kb z).1;rw[C2.fresh kb gkb] at this;cases this
  refine zra O Pt hi' (w₀:=w₀) (κ:=κ) C3' hv okb ekb h3 (fun b hb z=>nAk (z▸hb)) (fun t=>?_);intro x4 own4 w4 m4 C4;rw[Frame.finish_at];generalize hmc4:κ t m4=mc4;replace hmc4:=yay hmc4;refine zjg (O.xc ..) (rest:=[]) (by decide) [14,15] [_,_] _ _ rfl (zai (by kernel_rfl)) (C4.st O) rfl fun wp hp=>?_;replace hp:=yay hp
  go_wp2_with fail
  refine zae hp.out (C4.st O).okd ?_;refine zad (O.xc ..) ?_;obtain rfl:=qv.out;refine zc0 (O.xc ..) ?_;refine za4 (O.xc ..) (zaa Try.func93) (C4.st O) ⟨rfl,rfl,rfl,_,Try.func93,results_tmp rfl _ _ _⟩ ?_;obtain rfl:=hmc4.out;exact qu.out t _ _ _ _ C4
 case ist =>
  rintro qz i hi13 hir a w3 r ⟨x,own3,rfl,hI⟩ qy;obtain⟨hun,o,ho,qx⟩:=mem_ready.1 hir;have C3:=hI.C;obtain⟨oN,q2⟩:=C3.mine N o1;have eN:=q2.trans e1;clear q2;have hcase:i=3∨i=12∨i=0∨i=1∨i=2∨i=4∨i=5∨i=6∨i=7∨i=8∨i=9∨i=10∨i=11:=by omega
  rcases hcase with rfl|rfl|rfl|rfl|rfl|rfl|rfl|rfl|rfl|rfl|rfl|rfl|rfl
  ·have ho':=yaw ho;subst ho';have d1:qz.getD 1 false=true:=qx ⟨1,.data⟩ (by simp) rfl;have t1:x 14=_:=hI.tab 1 _ rfl d1;have d2:qz.getD 2 false=true:=qx ⟨2,.data⟩ (by simp) rfl;have t2:x 15=_:=hI.tab 2 _ rfl d2;unfold gpv at t1 t2;refine zje (O.xc ..) (v := .bool true) rfl rfl (by decide) (fun w=>?_) ?_
   ·unfold A56;simp only[Act.eval,List.getElem!_toArray,Array.getD_eq_getD_getElem?,t1,t2];exact ztn 169 245 (by kernel_rfl) (n:=0) (by kernel_rfl) _ w
   ·exact qy (A56 (upd x 16 (.bool true))) w3 ⟨_,own3,rfl,hI.put (i:=3) (by decide) rfl⟩
  ·have ho':=yaw ho;subst ho';have d4:qz.getD 4 false=true:=qx ⟨4,.guard⟩ (by simp) rfl;have t4:x 17=_:=hI.tab 4 _ rfl d4;have d11:qz.getD 11 false=true:=qx ⟨11,.data⟩ (by simp) rfl;have t11:x 24=_:=hI.tab 11 _ rfl d11;refine O.opD C3 rfl (by unfold A56;simp only[t4];rfl) (by decide) (zai (l:=[_]) (by kernel_rfl) _ (yaj.2 rfl)) fun wp hp=>⟨gpv wp.heap.size,wp.alloc (.cells #[.string v,.int .i64 0] 248),?_,fun w4 q1 q2 q3=>?_⟩
   ·unfold A56
    try unfold gpv
    go_simp<;>rfl
   have qp:wp.heap.size=w3.heap.size:=by rw[hp.heap,zaw]
   have hs4:w4.heap.size=w3.heap.size+1:=by rw[q3];simp[qp]
   have low4:∀b,b<w3.heap.size→w4.heap[b]?=w3.heap[b]?:=fun b hb=>q2 b (Below.heap_alloc _ _ _ (by omega));have e4:w4.heap[w3.heap.size]?=some (.cells #[.string v,.int .i64 0] 248 (0,0)):=by rw[q1 _ (C3.dn O (yax _)),←qp];exact heap_alloc_new _ _
   obtain⟨own4,C4,h1,h2,h3,h4⟩:=C3.grown (w1:=w4) O (by omega) (fun b hb' _=>low4 b hb');rw[qp];refine qy (A56 (upd x 25 (gpv w3.heap.size))) w4 ⟨_,own4,rfl,?_⟩;refine⟨hI.x0,hI.x3,hI.x6,hI.tab.put (i:=12) (.inr rfl),C4.less (zck C3 (fun b hb' _=>low4 b hb') h4),hI.hO.trans h1 hI.hF.1,.trans hI.hO hI.hF h2,fun _=>⟨_,rfl,h3 _ (yax _) (by omega),e4,hI.hF.1⟩⟩
  all_goals
   have ho':=yaw ho;subst ho';have y0:=hI.x0;have y3:=hI.x3;have y6:=hI.x6
   try have t0:x 13=_:=hI.tab 0 _ rfl (zah qx 0 rfl)
   try have t1:x 14=_:=hI.tab 1 _ rfl (zah qx 1 rfl)
   try have t2:x 15=_:=hI.tab 2 _ rfl (zah qx 2 rfl)
   try have t3:x 16=_:=hI.tab 3 _ rfl (zah qx 3 rfl)
   try have t4:x 17=_:=hI.tab 4 _ rfl (zah qx 4 rfl)
   try have t5:x 18=_:=hI.tab 5 _ rfl (zah qx 5 rfl)
   try have t6:x 19=_:=hI.tab 6 _ rfl (zah qx 6 rfl)
   try have t7:x 20=_:=hI.tab 7 _ rfl (zah qx 7 rfl)
   try have t8:x 21=_:=hI.tab 8 _ rfl (zah qx 8 rfl)
   try have t9:x 22=_:=hI.tab 9 _ rfl (zah qx 9 rfl)
   try have t10:x 23=_:=hI.tab 10 _ rfl (zah qx 10 rfl)
   try have t11:x 24=_:=hI.tab 11 _ rfl (zah qx 11 rfl)
   try unfold gpv at *
   refine hI.op O (by decide) rfl rfl (zai (l:=[_]) (by kernel_rfl) _ (yaj.2 rfl)) rfl (by first|rfl|(unfold A56;simp only[t4];rfl)) (fun wp hp=>?_) qy;have c0:=(zav hp ⟨N,0,none⟩).trans (zab eN 0);have c1:=(zav hp ⟨N,1,none⟩).trans (zab eN 1);simp only[yac,yaa,yab] at c0 c1;unfold A56
   try unfold gpv
   go_simp<;>rfl
end
end Go.Proofs.Ytofacoojpgkbiaa.SB
namespace Go.Proofs.Ytofacoojpgkbiaa
open Go.Conc Go.RowKit
open Go.ConcN (upd upd_ne upd_same)
set_option maxRecDepth 100000
section
variable{S:Type}{i d n f:Nat}
theorem ztg{L:zco S Int}{κ:Int→Fu (SM S)}(h:∀r,zbl i (κ r)):zbl i (zd7 L κ) :=
 zeh (zfc (κ:=fun m=>κ (L.get m.st)) (f:=id) (fun _=>rfl) fun _=>h _)
theorem zxf{L:zco S Int}{v:Int}{κ:Fu (SM S)}(h:zbl i κ):zbl i (zfq L v κ) :=
 zeh (zfc (κ:=fun _=>κ) (f:=fun m=>m.with (L.put v m.st)) (fun _=>rfl) fun _=>h)
theorem z3e{L:zco S Int}{v:Int}{κ:Int→Fu (SM S)}(h:∀r,zbl i (κ r)):zbl i (zmf L v κ) :=
 zeh (zfc (κ:=fun m=>κ (zbk (L.get m.st) v)) (f:=fun m=>m.with (L.put (zbk (L.get m.st) v) m.st)) (fun _=>rfl) fun _=>h _)
theorem zz5{L:zco S Int}{v:Int}{κ:Int→Fu (SM S)}(h:∀r,zbl i (κ r)):zbl i (zif L v κ) :=
 zeh (zfc (κ:=fun m=>κ (L.get m.st)) (f:=fun m=>m.with (L.put v m.st)) (fun _=>rfl) fun _=>h _)
theorem zxg{L:zco S Int}{x v:Int}{κ:Bool→Fu (SM S)}(h:∀t,zbl i (κ t)):zbl i (zhi L x v κ):=by
 refine zeh fun m=>?_;unfold zf6;split
 ·exact⟨fun j hj=>((h true _).1 j hj).trans rfl,(h true _).2⟩
 ·exact h false m
theorem zkw{L:zco S Int}{tst:Int→Option Int}{κ:Int→Bool→Fu (SM S)}(h:∀r t,zbl i (κ r t)):∀f,zbl i (zbt L tst κ f)
 | 0=>z5i
 | f+1=>ztg fun x=>by
  unfold zb6;split
  ·exact h _ _
  ·refine zxg fun t=>?_;split
   ·exact h _ _
   ·exact zkw h f
theorem zz6{L:zco S Bool}{κ:Bool→Fu (SM S)}(h:∀r,zbl i (κ r)):zbl i (zi5 L κ) :=
 zeh (zfc (κ:=fun m=>κ (L.get m.st)) (f:=id) (fun _=>rfl) fun _=>h _)
theorem z3f{L:zco S Bool}{κ:Bool→Fu (SM S)}(h:∀r,zbl i (κ r)):zbl i (zoj L κ) :=
 zeh (zfc (κ:=fun m=>κ (!L.get m.st)) (f:=fun m=>m.with (L.put true m.st)) (fun _=>rfl) fun _=>h _)
theorem zxh{L:zco S Bool}{κ:Bool→Fu (SM S)}(h:∀r,zbl i (κ r)):zbl i (zfz L κ) :=
 zeh (zfc (κ:=fun m=>κ (L.get m.st)) (f:=fun m=>m.with (L.put false m.st)) (fun _=>rfl) fun _=>h _)
theorem ztf{L:zco S BoxS}{κ:Nat→Int→Fu (SM S)}(h:∀s v,zbl i (κ s v)):zbl i (xloadF L κ) :=
 zeh (zfc (κ:=fun m=>κ (L.get m.st).ser (L.get m.st).v) (f:=id) (fun _=>rfl) fun _=>h _ _)
theorem zxe{L:zco S BoxS}{v:Int}{κ:Fu (SM S)}(h:zbl i κ):zbl i (zfp L v κ) :=
 zeh (zfc (κ:=fun _=>κ) (f:=fun m=>m.with (L.put ((L.get m.st).lay v) m.st)) (fun _=>rfl) fun _=>h)
theorem zz4{L:zco S BoxS}{v:Int}{κ:Int→Fu (SM S)}(h:∀r,zbl i (κ r)):zbl i (zic L v κ) :=
 zeh (zfc (κ:=fun m=>κ (L.get m.st).v) (f:=fun m=>m.with (L.put ((L.get m.st).lay v) m.st)) (fun _=>rfl) fun _=>h _)
theorem z3d{L:zco S BoxS}{s:Nat}{v:Int}{κ:Bool→Fu (SM S)}(h:∀t,zbl i (κ t)):zbl i (stepF (xcasP L s v κ)):=by
 refine zeh fun m=>?_;unfold xcasP;split
 ·exact⟨fun j hj=>((h true _).1 j hj).trans rfl,(h true _).2⟩
 ·exact h false m
theorem z5h(o:OpD)(κ:Ans→Fu (SM za7))(h:∀r,zbl i (κ r)):zbl i (doC n f o κ):=by
 unfold doC;by_cases b0:o.a<0∨(n:Int)≤o.a
 ·rw[if_pos b0];exact h _
 rw[if_neg b0];by_cases b1:o.kind=1
 ·rw[if_pos b1];exact ztg fun _=>h _
 rw[if_neg b1];by_cases b2:o.kind=2
 ·rw[if_pos b2];exact zxf (h _)
 rw[if_neg b2];by_cases b3:o.kind=3
 ·rw[if_pos b3];exact z3e fun _=>h _
 rw[if_neg b3];by_cases b4:o.kind=4
 ·rw[if_pos b4];exact zz5 fun _=>h _
 rw[if_neg b4];by_cases b5:o.kind=5
 ·rw[if_pos b5];exact zxg fun _=>h _
 rw[if_neg b5];by_cases b6:o.kind=6
 ·rw[if_pos b6];exact zkw (fun _ _=>h _) f
 rw[if_neg b6];by_cases b7:o.kind=7
 ·rw[if_pos b7];exact zkw (fun _ _=>h _) f
 rw[if_neg b7];by_cases b8:o.kind=8
 ·rw[if_pos b8];exact zkw (fun _ _=>h _) f
 rw[if_neg b8];by_cases b9:o.kind=9
 ·rw[if_pos b9];exact zz6 fun _=>h _
 rw[if_neg b9];by_cases b10:o.kind=10
 ·rw[if_pos b10];exact z3f fun _=>h _
 rw[if_neg b10];by_cases b11:o.kind=11
 ·rw[if_pos b11];exact zxh fun _=>h _
 rw[if_neg b11];by_cases b12:o.kind=12
 ·rw[if_pos b12];exact ztf fun _ _=>h _
 rw[if_neg b12];by_cases b13:o.kind=13
 ·rw[if_pos b13];exact zxe (h _)
 rw[if_neg b13];by_cases b14:o.kind=14
 ·rw[if_pos b14];exact zz4 fun _=>h _
 rw[if_neg b14];by_cases b15:o.kind=15
 ·rw[if_pos b15];exact ztf fun _ _=>z3d fun t=>h _
 rw[if_neg b15];exact h _
theorem zxk{L:zco S Int}{x v:Int}{κ:Bool→Fu (SM S)}(h:∀t,FD d (κ t)):FD d (zhi L x v κ):=by
 refine zc9 fun m=>?_;unfold zf6;split
 ·exact h true _
 ·exact h false m
theorem zky{L:zco S Int}{tst:Int→Option Int}{κ:Int→Bool→Fu (SM S)}:∀f d,d≤f→(∀r t,FD d (κ r t))→FD d (zbt L tst κ f)
 | 0,d,hd,h=>by
  obtain rfl:d=0:=by omega
  exact zxj
 | f+1,0,hd,h=>zxj
 | f+1,d+1,hd,h=>zxl fun m=>by
  show Deep d (zb6 L tst κ (zbt L tst κ f) (L.get m.st) m).2;rcases h':tst (L.get m.st) with _|y
  ·rw[zep h'];exact zom (h _ _) m
  ·rw[zeo h'];refine zxk (fun t=>?_) m;split
   ·exact zom (h _ _)
   ·exact zky f d (by omega) fun r t=>zom (h r t)
theorem z3k{L:zco S BoxS}{s:Nat}{v:Int}{κ:Bool→Fu (SM S)}(h:∀t,FD d (κ t)):FD d (stepF (xcasP L s v κ)):=by
 refine zc9 fun m=>?_;unfold xcasP;split
 ·exact h true _
 ·exact h false m
theorem z5n(hd:d≤f)(o:OpD)(κ:Ans→Fu (SM za7))(h:∀r,FD d (κ r)):FD d (doC n f o κ):=by
 unfold doC;by_cases b0:o.a<0∨(n:Int)≤o.a
 ·rw[if_pos b0];exact h _
 rw[if_neg b0];by_cases b1:o.kind=1
 ·rw[if_pos b1];exact zc9 fun m=>h _ m
 rw[if_neg b1];by_cases b2:o.kind=2
 ·rw[if_pos b2];exact zc9 fun m=>h _ _
 rw[if_neg b2];by_cases b3:o.kind=3
 ·rw[if_pos b3];exact zc9 fun m=>h _ _
 rw[if_neg b3];by_cases b4:o.kind=4
 ·rw[if_pos b4];exact zc9 fun m=>h _ _
 rw[if_neg b4];by_cases b5:o.kind=5
 ·rw[if_pos b5];exact zxk fun _=>h _
 rw[if_neg b5];by_cases b6:o.kind=6
 ·rw[if_pos b6];exact zky f d hd fun _ _=>h _
 rw[if_neg b6];by_cases b7:o.kind=7
 ·rw[if_pos b7];exact zky f d hd fun _ _=>h _
 rw[if_neg b7];by_cases b8:o.kind=8
 ·rw[if_pos b8];exact zky f d hd fun _ _=>h _
 rw[if_neg b8];by_cases b9:o.kind=9
 ·rw[if_pos b9];exact zc9 fun m=>h _ m
 rw[if_neg b9];by_cases b10:o.kind=10
 ·rw[if_pos b10];exact zc9 fun m=>h _ _
 rw[if_neg b10];by_cases b11:o.kind=11
 ·rw[if_pos b11];exact zc9 fun m=>h _ _
 rw[if_neg b11];by_cases b12:o.kind=12
 ·rw[if_pos b12];exact zc9 fun m=>h _ m
 rw[if_neg b12];by_cases b13:o.kind=13
 ·rw[if_pos b13];exact zc9 fun m=>h _ _
 rw[if_neg b13];by_cases b14:o.kind=14
 ·rw[if_pos b14];exact zc9 fun m=>h _ _
 rw[if_neg b14];by_cases b15:o.kind=15
 ·rw[if_pos b15];exact zc9 fun m=>z3k (fun t=>h _) m
 rw[if_neg b15];exact h _
end
end Go.Proofs.Ytofacoojpgkbiaa
namespace Go.Proofs.Ytofacoojpgkbiaa.Cl
open Go.Conc Go.RowKit
open Go.ConcN (upd upd_ne upd_same)
set_option maxRecDepth 100000
def coF{M:Type}(φ:Fu M):Co M := .step (fun m=>(φ m).1) (fun m=>(φ m).2)
theorem zy3{M:Type}(φ:Fu M)(m:M):stepF φ m=(m,coF φ):=rfl
def zf7(k mo i:Nat)(l:List OpD)(r:Ans):Fu (SM za7):=fun m=>zjp (doC k mo) i l (m.tell i r)
def zlo(t:GT):List OpD:=t.ops.drop (t.at_+1)
def z0w(o:OpD):Int→Option Int:=if o.kind=6 then grT o.b else if o.kind=7 then leT o.b else buT o.b o.c
def z39(k mo i:Nat)(t:GT):Int→Bool→Fu (SM za7):=fun r b=>zf7 k mo i (zlo t) ⟨b,r,[]⟩
def z2l(k mo i F:Nat)(t:GT):Fu (SM za7):=zbt (zcc (opG t).a.toNat) (z0w (opG t)) (z39 k mo i t) F
def z5w(k mo i:Nat)(t:GT):Nat→Co (SM za7)
 | 0 => .cut
 | F+1=>coF fun m=>zb6 (zcc (opG t).a.toNat) (z0w (opG t)) (z39 k mo i t) (z2l k mo i F t) (m.st.W (opG t).a.toNat) m
theorem zwh(k mo i:Nat)(t:GT)(F:Nat)(m:SM za7):z2l k mo i F t m=(m,z5w k mo i t F):=by cases F<;>rfl
def z7s(k mo i:Nat)(t:GT)(s:Nat)(v:Int):Fu (SM za7):=stepF (xcasP (zdm (opG t).a.toNat) s (zbk v (opG t).b) (fun b=>zf7 k mo i (zlo t) (if b then⟨true,zbk v (opG t).b,[]⟩ else⟨false,0,[]⟩)))
def coR(k mo i F:Nat)(t:GT):Co (SM za7) :=
 if 6≤(opG t).kind∧(opG t).kind≤8 then
  if t.pc=1 then z5w k mo i t F
  else coF (zf6 (zcc (opG t).a.toNat) t.x t.h fun b=>if b then z39 k mo i t t.h true else z2l k mo i F t)
 else if (opG t).kind=15 then
  if t.pc=1 then coF fun m=>z7s k mo i t (m.st.Ser (opG t).a.toNat) (m.st.B (opG t).a.toNat) m
  else coF (xcasP (zdm (opG t).a.toNat) (t.h+1).toNat (zbk t.x (opG t).b) (fun b=>zf7 k mo i (zlo t) (if b then⟨true,zbk t.x (opG t).b,[]⟩ else⟨false,0,[]⟩)))
 else((doC k mo (opG t) (zf7 k mo i (zlo t)) ⟨⟨fun _=>0,fun _=>false,fun _=>0,fun _=>0,0⟩,fun _=>[]⟩)).2
def coG(k mo i F:Nat)(t:GT):Co (SM za7):=if t.ops.length≤t.at_ then .fin else coR k mo i F t
def zki(k:Nat)(t:GT):GT:=if (opG t).kind<1∨15<(opG t).kind∨(opG t).a<0∨(k:Int)≤(opG t).a then zmd t ⟨false,0,[]⟩ else{ t with pc:=1 }
def zda(k:Nat):Nat→GT→GT
 | 0,t=>t
 | d+1,t=>if t.pc=0∧t.at_<t.ops.length then zda k d (zki k t) else t
theorem zll(S:GMc)(i:Nat):S.setT i (S.T i)=S:=by unfold GMc.setT;rw[zfr]
theorem zx6(S:GMc)(i:Nat):zb9 S i (opG (S.T i))=S.setT i (zki S.k (S.T i)):=by
 unfold zb9 zki;split<;>rfl
theorem zfj(i:Nat):∀(d:Nat) (S:GMc),zcb i d S=S.setT i (zda S.k d (S.T i))
 | 0,S=>(zll S i).symm
 | d+1,S=>by
  unfold zcb zda;split
  ·rw[zfj i d,zx6,GMc.setT_T,GMc.setT_setT];rfl
  ·exact(zll S i).symm
theorem zgl{k d:Nat}{t:GT}(h:¬(t.pc=0∧t.at_<t.ops.length)):zda k d t=t:=by
 cases d with
 | zero=>rfl
 | succ d=>unfold zda;rw[if_neg h]
theorem zzl{t:GT}(h:t.at_<t.ops.length):t.ops.drop t.at_=opG t::zlo t:=by
 rw[List.drop_eq_getElem_cons h];congr 1;unfold opG;rw[List.getD_eq_getElem?_getD,List.getElem?_eq_getElem h];rfl
def bM(m:SM za7)(i:Nat)(t:GT):SM za7:={ m with an:=upd m.an i t.ans }
theorem zx8{m:SM za7}{i:Nat}{t:GT}(h:m.an i=t.ans):bM m i t=m:=by
 unfold bM;rw[←h,zfr]
theorem zx7(m:SM za7)(i:Nat)(r:Ans)(t:GT):bM (m.tell i r) i t=bM m i t:=by
 unfold bM SM.tell;simp only[zph]
theorem z5q{k mo i:Nat}{t:GT}(m:SM za7)(h1:1≤(opG t).kind)(h2:(opG t).kind≤15)(h3:0≤(opG t).a)(h4:(opG t).a<k):doC k mo (opG t) (zf7 k mo i (zlo t)) m=(m,coR k mo i mo { t with pc:=1 }):=by
 have e1:opG ({ t with pc:=1 }:GT)=opG t:=rfl;have e2:zlo ({ t with pc:=1 }:GT)=zlo t:=rfl;have e3:z39 k mo i { t with pc:=1 }=z39 k mo i t:=rfl;have eF:∀m,z2l k mo i mo { t with pc:=1 } m=z2l k mo i mo t m:=fun m=>rfl;unfold coR;rw[e1];by_cases q:6≤(opG t).kind∧(opG t).kind≤8
 ·rw[if_pos q,if_pos rfl,←zwh];unfold doC;rw[if_neg (by omega),if_neg (by omega),if_neg (by omega),if_neg (by omega),if_neg (by omega),if_neg (by omega)];unfold z2l;rw[e1];by_cases k6:(opG t).kind=6
  ·rw[if_pos k6];unfold z0w;rw[if_pos k6];rfl
  rw[if_neg k6];by_cases k7:(opG t).kind=7
  ·rw[if_pos k7];unfold z0w;rw[if_neg k6,if_pos k7];rfl
  rw[if_neg k7,if_pos (by omega)];unfold z0w;rw[if_neg k6,if_neg k7];rfl
 rw[if_neg q];by_cases k15:(opG t).kind=15
 ·rw[if_pos k15,if_pos rfl];unfold doC;rw[if_neg (by omega),if_neg (by omega),if_neg (by omega),if_neg (by omega),if_neg (by omega),if_neg (by omega),if_neg (by omega),if_neg (by omega),if_neg (by omega),if_neg (by omega),if_neg (by omega),if_neg (by omega),if_neg (by omega),if_neg (by omega),if_neg (by omega),if_pos k15];rfl
 rw[if_neg k15,e2];unfold doC;rw[if_neg (show ¬((opG t).a<0∨(k:Int)≤(opG t).a) by omega)];by_cases b1:(opG t).kind=1
 ·rw[if_pos b1];rfl
 rw[if_neg b1];by_cases b2:(opG t).kind=2
 ·rw[if_pos b2];rfl
 rw[if_neg b2];by_cases b3:(opG t).kind=3
 ·rw[if_pos b3];rfl
 rw[if_neg b3];by_cases b4:(opG t).kind=4
 ·rw[if_pos b4];rfl
 rw[if_neg b4];by_cases b5:(opG t).kind=5
 ·rw[if_pos b5];rfl
 rw[if_neg b5];rw[if_neg (show ¬(opG t).kind=6 by omega)];rw[if_neg (show ¬(opG t).kind=7 by omega)];rw[if_neg (show ¬(opG t).kind=8 by omega)];by_cases b9:(opG t).kind=9
 ·rw[if_pos b9];rfl
 rw[if_neg b9];by_cases b10:(opG t).kind=10
 ·rw[if_pos b10];rfl
 rw[if_neg b10];by_cases b11:(opG t).kind=11
 ·rw[if_pos b11];rfl
 rw[if_neg b11];by_cases b12:(opG t).kind=12
 ·rw[if_pos b12];rfl
 rw[if_neg b12];by_cases b13:(opG t).kind=13
 ·rw[if_pos b13];rfl
 rw[if_neg b13];by_cases b14:(opG t).kind=14
 ·rw[if_pos b14];rfl
 rw[if_neg b14];omega
theorem zlj(k mo i:Nat):∀(d:Nat) (t:GT) (m:SM za7),t.ops.length - t.at_≤d→t.pc=0→m.an i=t.ans→zjp (doC k mo) i (t.ops.drop t.at_) m=(bM m i (zda k d t),coG k mo i mo (zda k d t))
 | d,t,m,hd,hp,ha=>by
  by_cases hl:t.at_<t.ops.length
  ·obtain⟨d',rfl⟩:∃d',d=d'+1:=⟨d - 1,by omega⟩;rw[zzl hl];have e1:zda k (d'+1) t=zda k d' (zki k t):=by
    show(if _ then _ else _)=_;rw[if_pos ⟨hp,hl⟩]
   rw[e1];show doC k mo (opG t) (zf7 k mo i (zlo t)) m=_;by_cases q:(opG t).kind<1∨15<(opG t).kind∨(opG t).a<0∨(k:Int)≤(opG t).a
   ·have e:zki k t=zmd t ⟨false,0,[]⟩:=if_pos q;rw[e];have h:=zlj k mo i d' (zmd t ⟨false,0,[]⟩) (m.tell i ⟨false,0,[]⟩) (by show t.ops.length - (t.at_+1)≤d';omega) rfl (by show upd m.an i (m.an i++[_]) i=t.ans++[_];rw[upd_same,ha]);rw[zx7] at h;have e5:doC k mo (opG t) (zf7 k mo i (zlo t)) m=zf7 k mo i (zlo t) ⟨false,0,[]⟩ m:=by
     unfold doC;by_cases b:(opG t).a<0∨(k:Int)≤(opG t).a
     ·rw[if_pos b]
     ·rw[if_neg b,if_neg (by omega),if_neg (by omega),if_neg (by omega),if_neg (by omega),if_neg (by omega),if_neg (by omega),if_neg (by omega),if_neg (by omega),if_neg (by omega),if_neg (by omega),if_neg (by omega),if_neg (by omega),if_neg (by omega),if_neg (by omega),if_neg (by omega)]
    rw[e5];exact h
   ·have e:zki k t={ t with pc:=1 }:=if_neg q;rw[e,zgl (fun z=>absurd (show(1:Int)=0 from z.1) (by decide)),z5q m (by omega) (by omega) (by omega) (by omega)]
    rw[zx8 (show m.an i=({ t with pc:=1 }:GT).ans from ha)]
    unfold coG;rw[if_neg (by show ¬t.ops.length≤t.at_;omega)]
  ·rw[zgl (fun z=>hl z.2),List.drop_eq_nil_of_le (by omega),zx8 ha];unfold coG;rw[if_pos (by omega)];rfl
structure Agr(s:za7)(S:GMc):Prop where
 W:∀j,j<S.k→s.W j=S.W j
 F:∀j,j<S.k→s.F j=S.F j
 B:∀j,j<S.k→s.B j=S.B j
 Ser:∀j,j<S.k→(s.Ser j:Int)=S.Ser j+1
 N:(s.N:Int)=S.N+1
structure XInv(t:GT):Prop where
 ops:∀o∈t.ops,o.Ok
 h15:(opG t).kind=15→t.pc=2→0≤t.h
 try_:6≤(opG t).kind→(opG t).kind≤8→t.pc=2→zcm t.h
structure NumOk(S:GMc):Prop where
 W:∀j,j<S.k→zcm (S.W j)
 B:∀j,j<S.k→zcm (S.B j)
 S:∀j,j<S.k→0≤S.Ser j
def SimR(mo i F:Nat)(m:SM za7)(φ:SM za7×Co (SM za7))(S':GMc):Prop:=∃s' F',φ=(⟨s',upd m.an i (S'.T i).ans⟩,coG S'.k mo i F' (S'.T i))∧Agr s' S'∧(F≤F'+1∨mo≤F')
section
variable{mo i F:Nat}{m m1:SM za7}{S S1:GMc}{t:GT}
theorem zcd{k:Nat}{r:Ans}(hk:S1.k=k)(ho:(S1.T i).ops=t.ops)(hat:(S1.T i).at_=t.at_)(han:(S1.T i).ans=t.ans)(hag:Agr m1.st S1)(hm:m1.an=m.an)(ha:m.an i=t.ans):SimR mo i F m (zf7 k mo i (zlo t) r m1) (zbm (zhm S1 i r) i):=by
 subst hk;have h:=zlj S1.k mo i ((zmd (S1.T i) r).ops.length+1 - (zmd (S1.T i) r).at_) (zmd (S1.T i) r) (m1.tell i r) (by omega) rfl (by show upd m1.an i (m1.an i++[r]) i=(S1.T i).ans++[r];rw[upd_same,hm,ha,han]);have e:(zmd (S1.T i) r).ops.drop (zmd (S1.T i) r).at_=zlo t:=by
  show(S1.T i).ops.drop ((S1.T i).at_+1)=t.ops.drop (t.at_+1);rw[ho,hat]
 rw[e,zx7] at h;have e1:(zhm S1 i r).T i=zmd (S1.T i) r:=GMc.setT_T _ _ _;have e2:zbm (zhm S1 i r) i=S1.setT i (zda S1.k ((zmd (S1.T i) r).ops.length+1 - (zmd (S1.T i) r).at_) (zmd (S1.T i) r)):=by
  unfold zbm;rw[zfj,e1];unfold zhm;rw[GMc.setT_setT];rfl
 rw[e2];refine⟨m1.st,mo,?_,⟨hag.W,hag.F,hag.B,hag.Ser,hag.N⟩,.inr (yax _)⟩;rw[GMc.setT_T];show zjp (doC S1.k mo) i (zlo t) (m1.tell i r)=_;rw[h];unfold bM;rw[hm];rfl
theorem zn2{k:Nat}{φ:SM za7×Co (SM za7)}{F':Nat}(hk:S1.k=k)(hl:(S1.T i).at_<(S1.T i).ops.length)(hpc:(S1.T i).pc≠0)(hag:Agr m1.st S1)(hm:m1.an=m.an)(ha:m.an i=(S1.T i).ans)(hφ:φ=(m1,coR k mo i F' (S1.T i)))(hF:F≤F'+1):SimR mo i F m φ (zbm S1 i):=by
 subst hk;have e:zbm S1 i=S1:=by
  unfold zbm;rw[zfj,zgl (fun z=>hpc z.1),zll]
 rw[e];refine⟨m1.st,F',?_,hag,.inl hF⟩;rw[hφ,←ha,zfr];unfold coG;rw[if_neg (by omega),←hm]
theorem Agr.setW(h:Agr m.st S)(c:Nat)(v:Int):Agr ((zcc c).put v m.st) (S.setW c v):=⟨fun j hj=>by
 show upd m.st.W c v j=upd S.W c v j;by_cases e:j=c
 ·subst e;rw[upd_same,upd_same]
 ·rw[upd_ne _ _ e,upd_ne _ _ e];exact h.W j hj,h.F,h.B,h.Ser,h.N⟩
theorem Agr.setF(h:Agr m.st S)(c:Nat)(v:Bool):Agr ((zhl c).put v m.st) (S.setF c v):=⟨h.W,fun j hj=>by
 show upd m.st.F c v j=upd S.F c v j;by_cases e:j=c
 ·subst e;rw[upd_same,upd_same]
 ·rw[upd_ne _ _ e,upd_ne _ _ e];exact h.F j hj,h.B,h.Ser,h.N⟩
theorem Agr.lay(h:Agr m.st S)(c:Nat)(v:Int):Agr ((zdm c).put (((zdm c).get m.st).lay v) m.st) (S.lay c v):=⟨h.W,h.F,fun j hj=>by
 show upd m.st.B c v j=upd S.B c v j;by_cases e:j=c
 ·subst e;rw[upd_same,upd_same]
 ·rw[upd_ne _ _ e,upd_ne _ _ e];exact h.B j hj,fun j hj=>by
 show((upd m.st.Ser c (m.st.N+1) j:Nat):Int)=upd S.Ser c (S.N+1) j+1;have:=h.N;by_cases e:j=c
 ·subst e;rw[upd_same,upd_same];omega
 ·rw[upd_ne _ _ e,upd_ne _ _ e];exact h.Ser j hj,by
 show((m.st.N+1:Nat):Int)=S.N+1+1;have:=h.N;omega⟩
theorem SimR.less{φ:SM za7×Co (SM za7)}(h:SimR mo i (F+1) m φ S):SimR mo i F m φ S:=by
 obtain⟨s',F',a,b,d⟩:=h;exact⟨s',F',a,b,by omega⟩
theorem z3g{x v most:Int}(hx:zcm x)(hv:zcm v):buT v most x=if (zcq x v most).2=true then some (zcq x v most).1 else none:=by
 obtain⟨x0,x1⟩:=hx;obtain⟨v0,v1⟩:=hv;have es:zbk x v=(x+v+9223372036854775808) % 18446744073709551616 - 9223372036854775808:=by unfold zbk;rw[IntKind.wrap_i64]
 unfold buT;by_cases h:znd v most x
 ·rw[if_pos h];obtain⟨⟨h1,h2⟩,h3⟩:=h;have e:zbk x v=x+v:=by rw[es];omega
  have hq:zcq x v most=(x+v,true):=by
   unfold zcq;rw[e,if_neg (show ¬((0≤v∧x+v<x)∨(v<0∧x<x+v)) by omega),decide_eq_true h3]
  rw[hq,if_pos rfl]
 ·rw[if_neg h,if_neg];intro z;apply h;unfold zcq at z;by_cases q:(0≤v∧zbk x v<x)∨(v<0∧x<zbk x v)
  ·rw[if_pos q] at z;cases z
  ·rw[if_neg q] at z;have z':zbk x v≤most:=of_decide_eq_true z;rw[es] at q z';exact⟨⟨by omega,by omega⟩,by omega⟩
theorem zzp{o:OpD}{x:Int}(ho:o.Ok)(hx:zcm x)(h6:6≤o.kind)(h8:o.kind≤8):z0w o x=if (zem o x).2=true then some (zem o x).1 else none:=by
 unfold z0w;by_cases k6:o.kind=6
 ·have hn:zem o x=(o.b,decide (x<o.b)):=by
   unfold zem;rw[if_neg (show ¬o.kind=8 by omega),k6];simp
  rw[if_pos k6,hn];unfold grT;by_cases q:o.b≤x
  ·rw[if_pos q,if_neg (by simpa using q)]
  ·rw[if_neg q,if_pos (by simpa using q)]
 rw[if_neg k6];by_cases k7:o.kind=7
 ·have hn:zem o x=(o.b,decide (o.b<x)):=by
   unfold zem;rw[if_neg (show ¬o.kind=8 by omega),k7];simp
  rw[if_pos k7,hn];unfold leT;by_cases q:x≤o.b
  ·rw[if_pos q,if_neg (by simpa using q)]
  ·rw[if_neg q,if_pos (by simpa using q)]
 have hn:zem o x=zcq x o.b o.c:=by
  unfold zem;rw[if_pos (show o.kind=8 by omega)]
 rw[if_neg k7,hn];exact z3g hx ho.b
theorem z2w{o:OpD}{x:Int}(ho:o.Ok)(h:(zem o x).2=true):zcm (zem o x).1:=by
 unfold zem at h⊢;split
 ·unfold zcq;split
  ·exact⟨by decide,by decide⟩
  ·exact zhx _ _
 ·exact ho.b
theorem zzd(hok:GTOk S.k (S.T i))(hs:zgz S.k (S.T i))(hx:XInv (S.T i))(hN:NumOk S) :
  ∃ψ,coG S.k mo i (F+1) (S.T i)=coF ψ∧∀m:SM za7,Agr m.st S→m.an i=(S.T i).ans→SimR mo i (F+1) m (ψ m) (zbm (zc8 S i) i):=by
 obtain⟨t,hT⟩:∃t,S.T i=t:=⟨_,rfl⟩;rw[hT] at hok hs hx;have qr:=hs.at_;have hoOk:(opG t).Ok:=hx.ops _ (by
  unfold opG;rw[List.getD_eq_getElem?_getD,List.getElem?_eq_getElem qr];exact List.getElem_mem qr)
 obtain⟨k1,k15⟩:=hs.kind;obtain⟨a0,a1⟩:=hs.a;obtain⟨p1,p2⟩:=hs.pc;have hj:(opG t).a.toNat<S.k:=by omega
 have e0:(S.T i).ops=t.ops:=by rw[hT]
 have e1:(S.T i).at_=t.at_:=by rw[hT]
 have e2:(S.T i).ans=t.ans:=by rw[hT]
 have st:∀t',(S.setT i t').T i=t':=fun t'=>GMc.setT_T _ _ _;have ag:∀{s:za7} {t':GT},Agr s S→Agr s (S.setT i t'):=fun h=>⟨h.W,h.F,h.B,h.Ser,h.N⟩;have hst:zc8 S i=zc8 S i:=rfl
 conv at hst=>rhs;unfold zc8
 rw[hT] at hst;unfold coG;rw[hT,if_neg (by omega)];unfold coR;by_cases h68:6≤(opG t).kind∧(opG t).kind≤8
 ·rw[if_pos h68];rw[if_neg (by omega),if_pos (by omega)] at hst;by_cases z1:t.pc=1
  ·rw[if_pos z1] at hst⊢;refine⟨fun m=>zb6 (zcc (opG t).a.toNat) (z0w (opG t)) (z39 S.k mo i t) (z2l S.k mo i F t) (m.st.W (opG t).a.toNat) m,rfl,fun m hA ha=>?_⟩;simp only;rw[hst,hA.W _ hj];have hn:=zzp (x:=S.W (opG t).a.toNat) hoOk (hN.W _ hj) h68.1 h68.2;by_cases q:(zem (opG t) (S.W (opG t).a.toNat)).2=true
   ·rw[if_pos q] at hn⊢;rw[zeo hn];refine zn2 (k:=S.k) (F':=F) (S1:=S.setT i (zt5 t (S.W (opG t).a.toNat))) (m1:=m) rfl ?_ ?_ (ag hA) rfl ?_ ?_ (by omega)
    ·rw[st];exact qr
    ·rw[st];show(2:Int)≠0;decide
    ·rw[st];exact ha
    ·rw[st];unfold coR;have eo:opG (zt5 t (S.W (opG t).a.toNat))=opG t:=rfl;rw[eo,if_pos h68,if_neg (by show ¬(2:Int)=1;decide)];rfl
   ·rw[if_neg q] at hn⊢;rw[zep hn];exact zcd (k:=S.k) (t:=t) (S1:=S.setT i (zt5 t (S.W (opG t).a.toNat))) (m1:=m) rfl (by rw[st];rfl) (by rw[st];rfl) (by rw[st];rfl) (ag hA) rfl ha
  ·rw[if_neg z1] at hst⊢;refine⟨_,rfl,fun m hA ha=>?_⟩;rw[hst];unfold zf6;have eg:(zcc (opG t).a.toNat).get m.st=S.W (opG t).a.toNat:=hA.W _ hj;rw[eg];by_cases q:S.W (opG t).a.toNat=t.x
   ·rw[if_pos q,if_pos q];dsimp only;rw[if_pos rfl];have hA1:Agr m.st (S.setT i { t with pc:=1 }):=ag hA;exact zcd (k:=S.k) (t:=t) (S1:=(S.setT i { t with pc:=1 }).setW (opG t).a.toNat t.h) (m1:=m.with ((zcc (opG t).a.toNat).put t.h m.st)) rfl (by rw[GMc.setW_T,st]) (by rw[GMc.setW_T,st]) (by rw[GMc.setW_T,st]) (hA1.setW _ _) rfl ha
   ·rw[if_neg q,if_neg q];dsimp only;rw[if_neg Bool.false_ne_true,zwh];refine zn2 (k:=S.k) (F':=F+1) (S1:=S.setT i { t with pc:=1 }) (m1:=m) rfl ?_ ?_ (ag hA) rfl ?_ ?_ (by omega)
    ·rw[st];exact qr
    ·rw[st];show(1:Int)≠0;decide
    ·rw[st];exact ha
    ·rw[st];unfold coR;rw[if_pos (show 6≤(opG ({ t with pc:=1 }:GT)).kind∧(opG ({ t with pc:=1 }:GT)).kind≤8 from h68),if_pos rfl]
     rfl
 rw[if_neg h68];by_cases h15:(opG t).kind=15
 ·rw[if_pos h15];rw[if_neg (by omega),if_neg (by omega),if_neg (by omega),if_neg (by omega),if_neg (by omega),if_neg (by omega)] at hst;by_cases z1:t.pc=1
  ·rw[if_pos z1] at hst⊢;refine⟨_,rfl,fun m hA ha=>?_⟩;rw[hst];simp only;rw[hA.B _ hj];unfold z7s;rw[zy3];refine zn2 (k:=S.k) (F':=F+1) (S1:=S.setT i { t with x:=S.B (opG t).a.toNat,h:=S.Ser (opG t).a.toNat,pc:=2 }) (m1:=m) rfl ?_ ?_ (ag hA) rfl ?_ ?_ (by omega)
   ·rw[st];exact qr
   ·rw[st];show(2:Int)≠0;decide
   ·rw[st];exact ha
   ·rw[st];unfold coR;have hse:=hA.Ser _ hj;have e9:(S.Ser (opG t).a.toNat+1).toNat=m.st.Ser (opG t).a.toNat:=by omega
    rw[if_neg (show ¬(6≤(opG ({ t with x:=S.B (opG t).a.toNat,h:=S.Ser (opG t).a.toNat,pc:=2 }:GT)).kind∧(opG ({ t with x:=S.B (opG t).a.toNat,h:=S.Ser (opG t).a.toNat,pc:=2 }:GT)).kind≤8) from h68),if_pos (show(opG ({ t with x:=S.B (opG t).a.toNat,h:=S.Ser (opG t).a.toNat,pc:=2 }:GT)).kind=15 from h15),if_neg (by show ¬(2:Int)=1;decide)]
    show _=(m,coF (xcasP (zdm (opG t).a.toNat) (S.Ser (opG t).a.toNat+1).toNat (zbk (S.B (opG t).a.toNat) (opG t).b) _));rw[e9];rfl
  ·rw[if_neg z1] at hst⊢;refine⟨_,rfl,fun m hA ha=>?_⟩;rw[hst];unfold xcasP;have hse:=hA.Ser _ hj;have hss:=hN.S _ hj;have hh:=hx.h15 h15 (by omega);show SimR mo i (F+1) m (if m.st.Ser (opG t).a.toNat=(t.h+1).toNat then _ else _) _;by_cases q:S.Ser (opG t).a.toNat=t.h
   ·rw[if_pos (by omega),if_pos q];exact zcd (k:=S.k) (t:=t) (S1:=S.lay (opG t).a.toNat (zbk t.x (opG t).b)) (m1:=m.with ((zdm (opG t).a.toNat).put (((zdm (opG t).a.toNat).get m.st).lay (zbk t.x (opG t).b)) m.st)) rfl e0 e1 e2 (hA.lay _ _) rfl ha
   ·rw[if_neg (by omega),if_neg q];exact zcd (k:=S.k) (t:=t) (S1:=S) (m1:=m) rfl e0 e1 e2 hA rfl ha
 rw[if_neg h15];have hp1:=hs.one h68 h15;unfold doC;rw[if_neg (by omega)];by_cases h1:(opG t).kind=1
 ·rw[if_pos (by omega)] at hst;unfold zdb at hst;rw[if_pos h1] at hst⊢;refine⟨_,rfl,fun m hA ha=>?_⟩;rw[hst];show SimR mo i (F+1) m (zf7 S.k mo i (zlo t) ⟨true,m.st.W (opG t).a.toNat,[]⟩ m) _;rw[hA.W _ hj];exact zcd (k:=S.k) (t:=t) (S1:=S) (m1:=m) rfl e0 e1 e2 hA rfl ha
 rw[if_neg h1];by_cases h2:(opG t).kind=2
 ·rw[if_pos (by omega)] at hst;unfold zdb at hst;rw[if_neg h1,if_pos h2] at hst;rw[if_pos h2];refine⟨_,rfl,fun m hA ha=>?_⟩;rw[hst];exact zcd (k:=S.k) (t:=t) (S1:=S.setW (opG t).a.toNat (opG t).b) (m1:=m.with ((zcc (opG t).a.toNat).put (opG t).b m.st)) rfl e0 e1 e2 (hA.setW _ _) rfl ha
 rw[if_neg h2];by_cases h3:(opG t).kind=3
 ·rw[if_pos (by omega)] at hst;unfold zdb at hst;rw[if_neg h1,if_neg h2,if_pos h3] at hst;rw[if_pos h3];refine⟨_,rfl,fun m hA ha=>?_⟩;rw[hst];show SimR mo i (F+1) m (zf7 S.k mo i (zlo t) ⟨true,zbk (m.st.W (opG t).a.toNat) (opG t).b,[]⟩ (m.with ((zcc (opG t).a.toNat).put (zbk (m.st.W (opG t).a.toNat) (opG t).b) m.st))) _;rw[hA.W _ hj];exact zcd (k:=S.k) (t:=t) (S1:=S.setW (opG t).a.toNat (zbk (S.W (opG t).a.toNat) (opG t).b)) (m1:=m.with ((zcc (opG t).a.toNat).put (zbk (S.W (opG t).a.toNat) (opG t).b) m.st)) rfl e0 e1 e2 (hA.setW _ _) rfl ha
 rw[if_neg h3];by_cases h4:(opG t).kind=4
 ·rw[if_pos (by omega)] at hst;unfold zdb at hst;rw[if_neg h1,if_neg h2,if_neg h3,if_pos h4] at hst;rw[if_pos h4];refine⟨_,rfl,fun m hA ha=>?_⟩;rw[hst];show SimR mo i (F+1) m (zf7 S.k mo i (zlo t) ⟨true,m.st.W (opG t).a.toNat,[]⟩ (m.with ((zcc (opG t).a.toNat).put (opG t).b m.st))) _;rw[hA.W _ hj];exact zcd (k:=S.k) (t:=t) (S1:=S.setW (opG t).a.toNat (opG t).b) (m1:=m.with ((zcc (opG t).a.toNat).put (opG t).b m.st)) rfl e0 e1 e2 (hA.setW _ _) rfl ha
 rw[if_neg h4];by_cases h5:(opG t).kind=5
 ·rw[if_pos (by omega)] at hst;unfold zdb at hst;rw[if_neg h1,if_neg h2,if_neg h3,if_neg h4] at hst;rw[if_pos h5];refine⟨_,rfl,fun m hA ha=>?_⟩;rw[hst];show SimR mo i (F+1) m (zf6 (zcc (opG t).a.toNat) (opG t).b (opG t).c (fun b=>zf7 S.k mo i (zlo t) ⟨b,0,[]⟩) m) _;unfold zf6;have eg:(zcc (opG t).a.toNat).get m.st=S.W (opG t).a.toNat:=hA.W _ hj;rw[eg];by_cases q:S.W (opG t).a.toNat=(opG t).b
  ·rw[if_pos q,if_pos q];exact zcd (k:=S.k) (t:=t) (S1:=S.setW (opG t).a.toNat (opG t).c) (m1:=m.with ((zcc (opG t).a.toNat).put (opG t).c m.st)) rfl e0 e1 e2 (hA.setW _ _) rfl ha
  ·rw[if_neg q,if_neg q];exact zcd (k:=S.k) (t:=t) (S1:=S) (m1:=m) rfl e0 e1 e2 hA rfl ha
 rw[if_neg h5];rw[if_neg (by omega),if_neg (by omega)] at hst;rw[if_neg (by omega),if_neg (by omega),if_neg (by omega)];by_cases h9:(opG t).kind=9
 ·rw[if_pos (by omega)] at hst;unfold zec at hst;rw[if_neg (by omega),if_neg (by omega)] at hst;rw[if_pos h9];refine⟨_,rfl,fun m hA ha=>?_⟩;rw[hst];show SimR mo i (F+1) m (zf7 S.k mo i (zlo t) ⟨m.st.F (opG t).a.toNat,0,[]⟩ m) _;rw[hA.F _ hj];exact zcd (k:=S.k) (t:=t) (S1:=S) (m1:=m) rfl e0 e1 e2 hA rfl ha
 rw[if_neg h9];by_cases h10:(opG t).kind=10
 ·rw[if_pos (by omega)] at hst;unfold zec at hst;rw[if_pos h10] at hst⊢;refine⟨_,rfl,fun m hA ha=>?_⟩;rw[hst];show SimR mo i (F+1) m (zf7 S.k mo i (zlo t) ⟨!m.st.F (opG t).a.toNat,0,[]⟩ (m.with ((zhl (opG t).a.toNat).put true m.st))) _;rw[hA.F _ hj];exact zcd (k:=S.k) (t:=t) (S1:=S.setF (opG t).a.toNat true) (m1:=m.with ((zhl (opG t).a.toNat).put true m.st)) rfl e0 e1 e2 (hA.setF _ _) rfl ha
 rw[if_neg h10];by_cases h11:(opG t).kind=11
 ·rw[if_pos (by omega)] at hst;unfold zec at hst;rw[if_neg h10,if_pos h11] at hst;rw[if_pos h11];refine⟨_,rfl,fun m hA ha=>?_⟩;rw[hst];show SimR mo i (F+1) m (zf7 S.k mo i (zlo t) ⟨m.st.F (opG t).a.toNat,0,[]⟩ (m.with ((zhl (opG t).a.toNat).put false m.st))) _;rw[hA.F _ hj];exact zcd (k:=S.k) (t:=t) (S1:=S.setF (opG t).a.toNat false) (m1:=m.with ((zhl (opG t).a.toNat).put false m.st)) rfl e0 e1 e2 (hA.setF _ _) rfl ha
 rw[if_neg h11];rw[if_neg (by omega)] at hst;by_cases h12:(opG t).kind=12
 ·rw[if_pos h12] at hst⊢;refine⟨_,rfl,fun m hA ha=>?_⟩;rw[hst];show SimR mo i (F+1) m (zf7 S.k mo i (zlo t) ⟨true,m.st.B (opG t).a.toNat,[]⟩ m) _;rw[hA.B _ hj];exact zcd (k:=S.k) (t:=t) (S1:=S) (m1:=m) rfl e0 e1 e2 hA rfl ha
 rw[if_neg h12] at hst⊢;by_cases h13:(opG t).kind=13
 ·rw[if_pos h13] at hst⊢;refine⟨_,rfl,fun m hA ha=>?_⟩;rw[hst];exact zcd (k:=S.k) (t:=t) (S1:=S.lay (opG t).a.toNat (opG t).b) (m1:=m.with ((zdm (opG t).a.toNat).put (((zdm (opG t).a.toNat).get m.st).lay (opG t).b) m.st)) rfl e0 e1 e2 (hA.lay _ _) rfl ha
 rw[if_neg h13] at hst⊢;by_cases h14:(opG t).kind=14
 ·rw[if_pos h14] at hst⊢;refine⟨_,rfl,fun m hA ha=>?_⟩;rw[hst];show SimR mo i (F+1) m (zf7 S.k mo i (zlo t) ⟨true,m.st.B (opG t).a.toNat,[]⟩ (m.with ((zdm (opG t).a.toNat).put (((zdm (opG t).a.toNat).get m.st).lay (opG t).b) m.st))) _;rw[hA.B _ hj];exact zcd (k:=S.k) (t:=t) (S1:=S.lay (opG t).a.toNat (opG t).b) (m1:=m.with ((zdm (opG t).a.toNat).put (((zdm (opG t).a.toNat).get m.st).lay (opG t).b) m.st)) rfl e0 e1 e2 (hA.lay _ _) rfl ha
 omega
end
end Go.Proofs.Ytofacoojpgkbiaa.Cl
