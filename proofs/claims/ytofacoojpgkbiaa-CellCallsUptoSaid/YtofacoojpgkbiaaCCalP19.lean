/- Part of a proof. No condition. -/
import Derived.Test.YtofacoojpgkbiaaCCalP18
set_option linter.unusedVariables false
set_option maxHeartbeats 8000000
set_option linter.unusedSimpArgs false
namespace Go.Proofs.Ytofacoojpgkbiaa
open Go.Conc Go.RowKit
open Go.ConcN (upd upd_ne upd_same)
set_option maxRecDepth 100000
section
variable{S:Type}{md:Md (SM S)}{LB:zco S BoxS}{ib wb fb bb lo:Nat}{A A1:Nat→Prop}{w₀ w₁:W0 (SM S)}{c:Frame}{cs:List Frame}{κ:Ans→Fu (SM S)}{o:OpD}{y:md.β}{ql qm own:Nat→Owner}{w0 w1 w:World}{m:SM S}{N T K3:Nat}{x:Nat→Value}{R:List Item}{tv:Nat→Option Value}{bs bd:Nat}{qz:Array Bool}{mc:SM S×Co (SM S)}
structure J35(md:Md (SM S))(tv:Nat→Option Value)(bs T N K3:Nat)(y:md.β)(ql:Nat→Owner)(w0:World)(A:Nat→Prop)(w₀:W0 (SM S))(m:SM S)(qz:Array Bool)(x:Nat→Value)(own:Nat→Owner)(w:World):Prop where
 x1:x 1=md.sv
 x3:x 3 = .pointer (some ⟨T,0,none⟩)
 x5:x 5 = .pointer (some ⟨N,0,none⟩)
 x6:x 6 = .pointer (some ⟨N+1,0,none⟩)
 x7:x 7 = .pointer (some ⟨N+2,0,none⟩)
 x9:x 9=gpv K3
 tab:Tab tv bs qz x
 C:md.C y own A w₀ w m
 hO:OwnStep md.i ql own w0.heap.size
 hF:Frm md.i ql w0 w
theorem J35.put(h:J35 md tv bs T N K3 y ql w0 A w₀ m qz x own w)(hb:14≤bs){i:Nat}{u:Value}(ht:tv i=some u):J35 md tv bs T N K3 y ql w0 A w₀ m (qz.setIfInBounds i true) (upd x (bs+i) u) own w :=
 ⟨by rw[upd_ne _ _ (by omega)];exact h.x1,by rw[upd_ne _ _ (by omega)];exact h.x3,by rw[upd_ne _ _ (by omega)];exact h.x5,by rw[upd_ne _ _ (by omega)];exact h.x6,by rw[upd_ne _ _ (by omega)];exact h.x7,by rw[upd_ne _ _ (by omega)];exact h.x9,h.tab.put (.inl ht),h.C,h.hO,h.hF⟩
theorem J35.grow(h:J35 md tv bs T N K3 y ql w0 A w₀ m qz x own w){own':Nat→Owner}{w':World}(C:md.C y own' A w₀ w' m)(hO:OwnStep md.i own own' w.heap.size)(hF:Frm md.i own w w'):J35 md tv bs T N K3 y ql w0 A w₀ m qz x own' w' :=
 ⟨h.x1,h.x3,h.x5,h.x6,h.x7,h.x9,h.tab,C,h.hO.trans hO h.hF.1,.trans h.hO h.hF hF⟩
def tv35(bb N:Nat)(p:Option Addr)(v ob:Int):Nat→Option Value
 | 0=>some (.agg #[.pointer p,gpv bb])
 | 1=>some (.int .i64 v)
 | 2=>some (.pointer (some ⟨N,2,none⟩))
 | 3=>some (.int .i64 ob)
 | 4=>some (.int .i64 (zbk v ob))
 | _=>none
theorem z6y(O:md.Ok){s:Nat}{v:Int}{p:Option Addr}(hH:HeldC w₁.own w₁.heap ib s v p)
  (C:md.C y ql A1 w₁ w0 m) (hAN:A1 N) (hAH:A1 K3) (eNb:w₁.heap[N]?=some (.cells #[.int .i64 o.kind,.int .i64 o.a,.int .i64 o.b,.int .i64 o.c] 45 (0,0))) (eHb:w₁.heap[K3]?=some (.cells #[.pointer p,gpv bb] 119 (0,0)))
  (x1:x 1=md.sv) (x3:x 3 = .pointer (some ⟨T,0,none⟩)) (x5:x 5 = .pointer (some ⟨N,0,none⟩)) (x6:x 6 = .pointer (some ⟨N+1,0,none⟩)) (x7:x 7 = .pointer (some ⟨N+2,0,none⟩)) (x9:x 9=gpv K3)
  (qu:∀x own w,md.C y own A1 w₁ w m→x 1=md.sv→x 3 = .pointer (some ⟨T,0,none⟩)→x 5 = .pointer (some ⟨N,0,none⟩)→x 6 = .pointer (some ⟨N+1,0,none⟩)→x 7 = .pointer (some ⟨N+2,0,none⟩)→x 9=gpv K3→x 10 = .int .i64 (zbk v o.b)→md.GO y own w mc (G ((base 35).at (A35 x) (.code (cB (cB (cA (zcs 14))))::R)) (c::cs)) w) :
  md.GO y ql w0 mc (G ((base 35).at (A35 x) (.code (cB (cA (zcs 14)))::R)) (c::cs)) w0:=by
 replace qu:=yay qu;refine zas (c:=cB (cA (zcs 14))) (O.xc ..) rfl fun R0 qv=>?_;rw[show cA (cB (cA (zcs 14)))=Code.region _ _ _ from rfl]
 refine zht (O.xc ..) 5 [[5]] rfl (by kernel_rfl) (C.st O) (fun qz a w=>∃x own,a=A35 x∧J35 md (tv35 bb N p v o.b) 153 T N K3 y ql w0 A1 w₁ m qz x own w) ?i0 ?ie ?ist
 case i0=>exact⟨x,ql,rfl,x1,x3,x5,x6,x7,x9,.zero,C,.refl,.refl⟩
 case ie =>
  rintro a w3 ⟨x,own3,rfl,hI⟩ r hr;obtain rfl:r=[5]:=by simpa using hr
  have t4:x 157 = .int .i64 (zbk v o.b):=hI.tab 4 _ rfl rfl;have y1:=hI.x1;have y3:=hI.x3;have y5:=hI.x5;have y6:=hI.x6;have y7:=hI.x7;have y9:=hI.x9;have C3:=hI.C;refine O.rebase hI.hO hI.hF ?_;unfold A35;simp only[y1,y3,y5,y6,y7,y9,t4];refine zjg (O.xc ..) (rest:=[]) (by decide) [5] [_] _ _ rfl (zai (by kernel_rfl)) (C3.st O) rfl fun wp hp=>?_;replace hp:=yay hp
  try unfold gpv
  go_wp2_with fail
  refine zae hp.out (C3.st O).okd ?_;clear hp wp;refine zad (O.xc ..) ?_;obtain rfl:=qv.out;rw[zde _ rfl];refine qu.out _ _ _ C3 ?_ ?_ ?_ ?_ ?_ ?_ ?_<;>first|rfl|skip
 case ist =>
  rintro qz i qp hi a w3 r ⟨x,own3,rfl,hI⟩ qy;obtain⟨hun,op,ho,qx⟩:=mem_ready.1 hi;have C3:=hI.C;have eN:=(C3.mine N hAN).2.trans eNb;have eH:=(C3.mine K3 hAH).2.trans eHb;have hcase:i=0∨i=1∨i=2∨i=3∨i=4:=by omega
  rcases hcase with rfl|rfl|rfl|rfl|rfl
  ·have y9:=hI.x9
   try unfold gpv at y9
   refine O.op1 C3 rfl rfl (by decide) (zai (l:=[_]) (by kernel_rfl) _ (yaj.2 rfl)) (v := .agg #[.pointer p,gpv bb]) (fun wp hp=>by
    have cK0:=(zav hp ⟨K3,0,none⟩).trans (zab eH 0);have cK1:=(zav hp ⟨K3,1,none⟩).trans (zab eH 1);simp only[yac,yaa,yab] at cK0 cK1;unfold A35
    try unfold gpv
    go_simp<;>rfl) ?_
   exact qy (A35 (upd x 153 (.agg #[.pointer p,gpv bb]))) w3 ⟨_,own3,rfl,hI.put (by decide) (i:=0) rfl⟩
  ·have ho':=yaw ho;subst ho';have d0:qz.getD 0 false=true:=qx ⟨0,.data⟩ (by simp) rfl;have t0:x 153=_:=hI.tab 0 _ rfl d0
   try unfold gpv at t0
   refine O.callA C3 zbc (f:=55) (by simp) rfl rfl (by decide) rfl Try.func55 (by kernel_rfl) (by kernel_rfl) fun wp hp=>?_;walk_nrm;show Calls Try.prog 55 #[x 153] wp _;rw[t0];have hHw:HeldC own3 w3.heap ib s v p:=hH.keep fun b t _ q=>C3.tg b t q;refine(heldI_walk wp (hHw.kept (w:=wp) fun b ⟨t,hb⟩=>za8 hp (C3.dm O (by rw[hb];simp))) ⟨_,rfl⟩).mono ?_;rintro e' w' ⟨rfl,rfl⟩;refine⟨_,rfl,fun w4 q1 q2 q3=>?_⟩;have qp:wp.heap.size=w3.heap.size:=by rw[hp.heap,zaw]
   have hs4:w4.heap.size=w3.heap.size+1:=by rw[q3];simp[qp]
   have low4:∀b,b<w3.heap.size→w4.heap[b]?=w3.heap[b]?:=fun b hb=>q2 b (Below.heap_alloc _ _ _ (by omega));obtain⟨own4,C4,h1,h2,h3,h4⟩:=C3.grown (w1:=w4) O (by omega) (fun b hb' _=>low4 b hb');exact qy (A35 (upd x 154 (.int .i64 v))) w4 ⟨_,own4,rfl,(hI.grow (C4.less (zck C3 (fun b hb' _=>low4 b hb') h4)) h1 h2).put (by decide) (i:=1) rfl⟩
  ·have y5:=hI.x5
   try unfold gpv at y5
   refine O.op1 C3 rfl rfl (by decide) (zai (l:=[_]) (by kernel_rfl) _ (yaj.2 rfl)) (v := .pointer (some ⟨N,2,none⟩)) (fun wp hp=>by
    unfold A35
    try unfold gpv
    go_simp<;>rfl) ?_
   exact qy (A35 (upd x 155 (.pointer (some ⟨N,2,none⟩)))) w3 ⟨_,own3,rfl,hI.put (by decide) (i:=2) rfl⟩
  ·have ho':=yaw ho;subst ho';have d2:qz.getD 2 false=true:=qx ⟨2,.data⟩ (by simp) rfl;have t2:x 155=_:=hI.tab 2 _ rfl d2
   try unfold gpv at t2
   refine O.op1 C3 rfl rfl (by decide) (zai (l:=[_]) (by kernel_rfl) _ (yaj.2 rfl)) (v := .int .i64 o.b) (fun wp hp=>by
    have cN:=(zav hp ⟨N,2,none⟩).trans (zab eN 2);simp only[yac,yaa,yab] at cN;unfold A35
    try unfold gpv
    go_simp<;>rfl) ?_
   exact qy (A35 (upd x 156 (.int .i64 o.b))) w3 ⟨_,own3,rfl,hI.put (by decide) (i:=3) rfl⟩
  ·have ho':=yaw ho;subst ho';have d1:qz.getD 1 false=true:=qx ⟨1,.data⟩ (by simp) rfl;have t1:x 154=_:=hI.tab 1 _ rfl d1;have d3:qz.getD 3 false=true:=qx ⟨3,.data⟩ (by simp) rfl;have t3:x 156=_:=hI.tab 3 _ rfl d3
   try unfold gpv at t1 t3
   refine O.op1 C3 rfl rfl (by decide) (zai (l:=[_]) (by kernel_rfl) _ (yaj.2 rfl)) (v := .int .i64 (zbk v o.b)) (fun wp hp=>by
    unfold A35 zbk
    go_simp<;>rfl) ?_
   exact qy (A35 (upd x 157 (.int .i64 (zbk v o.b)))) w3 ⟨_,own3,rfl,hI.put (by decide) (i:=4) rfl⟩
theorem z0k(O:md.Ok)(Pt:Part md LB (BAt ib bb) bb TS2)(I:zq9 md wb fb bb lo A w₀ c cs κ o y qm w1 m N T x) :
  md.GO y qm w1 (xloadF LB (fun _ v=>κ ⟨true,v,[]⟩) m) (G ((base 35).at (A35 x) (.code (cA (zcs 11)) :: .inBlock 0 :: .code ze1::[])) (c::cs)) w1:=by
 obtain⟨ho,qq,qu,C1,LL,hA,oN,eN,oB,eB,oK,eK,oT,eT,x1,x3,x5,x6,x7⟩:=I;generalize qw:xloadF LB (fun _ v=>κ ⟨true,v,[]⟩) m=mc;replace qw:=yay qw;replace qu:=yay qu;replace eB:=yay eB;replace eK:=yay eK;replace hA:=yay hA;refine zas (c:=cA (zcs 11)) (O.xc ..) rfl fun R0 qv=>?_;rw[show cA (cA (zcs 11))=Code.region _ _ _ from rfl]
 unfold A35;simp only[x1,x3,x5,x6,x7]
 try unfold gpv
 refine za5 (O.xc ..) 3 (by decide) (by decide) (zai (by kernel_rfl)) (C1.st O) fun wp hp=>?_;simp only[yad,yae];have g2:=(zav hp ⟨T,2,none⟩).trans (zab eT 2);simp only[yac,yaa,yab] at g2
 try unfold gpv at g2
 replace hp:=yay hp
 go_wp2_with fail
 refine zae hp.out (C1.st O).okd ?_;clear hp g2 wp;refine zap (O.xc ..) rfl rfl (by decide) rfl Try.func54 (by kernel_rfl) (by kernel_rfl) ?_;walk_nrm;obtain rfl:=qw.out;clear qw;refine xload_cps O Pt (κ:=fun _ v=>κ ⟨true,v,[]⟩) (O.endUp (zaa Try.func35) rfl rfl (O.endMore qq LL)) (fun s v p A₁ w₁ L1 hH=>?_) _ _ _ _ C1;intro y2 qk w2 m2 C2;rw[Frame.finish_at];walk_nrm;have CA:=C2.less L1;obtain⟨oN1,qN⟩:=CA.mine N oN;obtain⟨oT1,qT⟩:=CA.mine T oT;obtain⟨oB1,qB⟩:=CA.mine (N+1) oB;obtain⟨oK1,qK⟩:=CA.mine (N+2) oK;have eN1:=qN.trans eN;have eT1:=qT.trans eT;have eB1:=qB.trans eB.out;have eK1:=qK.trans eK.out;clear qB qK qN qT;have hH2:HeldC qk w2.heap ib s v p:=hH.keep fun b t _ q=>C2.tg b t q;generalize qw:(fun _ v=>κ ⟨true,v,[]⟩) s v m2=mc;replace qw:=yay qw;obtain⟨K3,hN⟩:∃N,w2.heap.size=N:=⟨_,rfl⟩;have hOk:=(C2.st O).okd;have hD0:md.D w2.heap.size=none:=C2.dn O (yax _);refine zbg (O.xc ..) 4 2 (by decide) (by decide) (zai (by kernel_rfl)) (C2.st O) fun wp hp=>?_;simp only[yaf,yag,yad,yae];have qp:wp.heap.size=K3:=by rw[hp.heap,zaw];exact hN
 replace qp:=yay qp;replace hp:=yay hp;replace eN1:=yay eN1;replace eT1:=yay eT1;replace eB1:=yay eB1;replace eK1:=yay eK1
 try unfold gpv at *
 go_wp2_with fail
 refine⟨⟨rfl,rfl⟩,w2.alloc (.cells #[.pointer p,.pointer (some ⟨bb,0,none⟩)] 119),rfl,zeb hOk _,?_,?_⟩
 ·exact zea hp.out _ hD0
 rw[qp.out];clear hp qp wp;refine zad (O.xc ..) ?_;obtain rfl:=qv.out;clear qv;have e3:(w2.alloc (.cells #[.pointer p,.pointer (some ⟨bb,0,none⟩)] 119)).heap[K3]?=some (.cells #[.pointer p,gpv bb] 119 (0,0)):=by rw[←hN];exact heap_alloc_new _ _
 have k3:∀b,b<w2.heap.size→(w2.alloc (.cells #[.pointer p,.pointer (some ⟨bb,0,none⟩)] 119)).heap[b]?=w2.heap[b]?:=fun b hb=>Below.heap_alloc _ _ _ hb;have s3:(w2.alloc (.cells #[.pointer p,.pointer (some ⟨bb,0,none⟩)] 119)).heap.size=K3+1:=by rw[←hN];exact Array.size_push _
 generalize w2.alloc (.cells #[.pointer p,.pointer (some ⟨bb,0,none⟩)] 119)=w3 at *;obtain⟨own3,C3,hO3,hF3,hn3,ho3⟩:=C2.grown (w1:=w3) O (by omega) (fun b hb _=>k3 b hb);refine O.rebase hO3 hF3 ?_;have L3:Less md.i A₁ w₁ (fun b=>own3 b = .th md.i) ⟨w3.heap,m2,own3⟩:=zck C2 (fun b hb _=>k3 b hb) ho3;have o3:=hn3 K3 (by omega) (by omega);have LLL:=(LL.trans L1).trans L3;have hH3:HeldC own3 w3.heap ib s v p:=hH2.keep fun b t _ q=>by
  have qr:=C2.lt (b:=b) (by rw[q];simp);exact⟨(ho3 b qr).trans q,k3 b qr⟩
 have lt2:∀b,qk b = .th md.i→b<w2.heap.size:=fun b hb=>C2.lt (by rw[hb];simp);have oT3:=(ho3 T (lt2 _ oT1)).trans oT1;have eT3:=(k3 T (lt2 _ oT1)).trans eT1.out;have oN3:=(ho3 N (lt2 _ oN1)).trans oN1;have oB3:=(ho3 _ (lt2 _ oB1)).trans oB1;have oK3:=(ho3 _ (lt2 _ oK1)).trans oK1;have eN3:=(k3 N (lt2 _ oN1)).trans eN1.out;have eB3:=(k3 _ (lt2 _ oB1)).trans eB1.out;have eK3:=(k3 _ (lt2 _ oK1)).trans eK1.out;have nK:∀b,A b→b≠N+2:=fun b h=>by have:=hA.out _ h;omega
 clear hO3 hF3 hn3 ho3 k3 hD0 hOk hN C2 CA lt2 eN1 eB1 eK1 eT1 oN1 oB1 oK1 oT1 hH2 hH;rw[zde _ rfl];rw[show cB (cA (zcs 11))=Code.region _ _ _ from rfl]
 have hBlt:N+1<w3.heap.size:=C3.lt (by rw[oB3];simp);have hKlt:N+2<w3.heap.size:=C3.lt (by rw[oK3];simp);refine za5 (O.xc ..) 1 (by decide) (by decide) (zai (by kernel_rfl)) (C3.st O) fun wp hp=>?_;simp only[yad,yae];have h0:=(za8 hp (C3.dm O (by rw[o3];simp))).trans e3;have cK0:=zab h0 0;have cK1:=zab h0 1;simp only[yac,yaa,yab] at cK0 cK1;replace h0:=yay h0;replace hp:=yay hp;unfold gpv at cK1;unfold A35
 go_wp2_with fail
 refine zae hp.out (C3.st O).okd ?_;clear hp h0 cK0 cK1 wp;refine O.callA C3 zbc (f:=55) (by simp) rfl rfl (by decide) rfl Try.func55 (by kernel_rfl) (by kernel_rfl) fun wp hp=>?_;walk_nrm;refine(heldI_walk wp (hH3.kept (w:=wp) fun b ⟨t,hb⟩=>za8 hp (C3.dm O (by rw[hb];simp))) ⟨_,rfl⟩).mono ?_;rintro e' w' ⟨rfl,rfl⟩;refine⟨_,rfl,fun w4 q1 q2 q3=>O.one C3 hp rfl rfl q1 q2 (q3.trans (by simp;rw[hp.heap,zaw])) fun own4 C4 e4 s4 o4 L4 low4=>?_⟩;have oB2:=(low4 (N+1) hBlt).2.trans oB3;have eB2:=(low4 (N+1) hBlt).1.trans eB3;have oK2:=(low4 (N+2) hKlt).2.trans oK3;have eK2:=(low4 (N+2) hKlt).1.trans eK3;clear q1 q2 q3 low4 e4 s4 o4 hp wp hBlt hKlt;have C4':=(C4.less L4).less LLL;have nK2:¬A (N+2):=fun h=>nK _ h rfl;refine zbg (O.xc ..) 2 2 (by decide) (by decide) (zai (by kernel_rfl)) (C4.st O) fun wp hp=>?_;simp only[yaf,yag,yad,yae];obtain⟨k0,k1,z0,z1⟩:=C4.kf O hp oK2 eK2;replace hp:=yay hp;replace eK2:=yay eK2;replace eB2:=yay eB2;replace eN3:=yay eN3;replace eT3:=yay eT3;replace e3:=yay e3;replace eB3:=yay eB3;replace eK3:=yay eK3
 go_wp2_with fail
 refine⟨⟨rfl,rfl⟩,w4.setCell ⟨N+2,1,none⟩ (.int .i64 v),rfl,zba (C4.st O).okd _ _,zao hp.out _ _,?_⟩;clear hp k0 k1 z0 z1 wp;refine zad (O.xc ..) ?_;refine za6 (O.xc ..) ?_;obtain⟨C5,F5⟩:=C4'.wrote (w1:=w4.setCell ⟨N+2,1,none⟩ (.int .i64 v)) O oK2 nK2 (by simp[World.setCell]) (fun b hb=>Below.heap_setCell _ _ _ _ hb);refine O.rebase .refl F5 ?_;obtain rfl:=qw.out;rw[zde _ rfl];exact zkh O C5 .refl hA.out oB2 ((Below.heap_setCell _ _ _ _ (show N+1≠N+2 by omega)).trans eB2.out) rfl ⟨true,v,[]⟩ rfl oK2 (zal eK2.out 1 (.int .i64 v)) rfl rfl (qu.out ⟨true,v,[]⟩)
theorem zxw(O:md.Ok)(Pt:Part md LB (BAt ib bb) bb TS2)(hib:ib<65536)(I:zq9 md wb fb bb lo A w₀ c cs κ o y qm w1 m N T x) :
  md.GO y qm w1 (xloadF LB (fun s v=>stepF (xcasP LB s (zbk v o.b) (fun t=>κ (if t then⟨true,zbk v o.b,[]⟩ else⟨false,0,[]⟩)))) m) (G ((base 35).at (A35 x) (.code (cA (zcs 14)) :: .inBlock 0 :: .code ze1::[])) (c::cs)) w1:=by
 obtain⟨ho,qq,qu,C1,LL,hA,oN,eN,oB,eB,oK,eK,oT,eT,x1,x3,x5,x6,x7⟩:=I;generalize qw:xloadF LB (fun s v=>stepF (xcasP LB s (zbk v o.b) (fun t=>κ (if t then⟨true,zbk v o.b,[]⟩ else⟨false,0,[]⟩)))) m=mc;replace qw:=yay qw;replace qu:=yay qu;replace eB:=yay eB;replace eK:=yay eK;replace hA:=yay hA;refine zas (c:=cA (zcs 14)) (O.xc ..) rfl fun R0 qv=>?_;rw[show cA (cA (zcs 14))=Code.region _ _ _ from rfl]
 unfold A35;simp only[x1,x3,x5,x6,x7]
 try unfold gpv
 refine za5 (O.xc ..) 3 (by decide) (by decide) (zai (by kernel_rfl)) (C1.st O) fun wp hp=>?_;simp only[yad,yae];have g2:=(zav hp ⟨T,2,none⟩).trans (zab eT 2);simp only[yac,yaa,yab] at g2
 try unfold gpv at g2
 replace hp:=yay hp
 go_wp2_with fail
 refine zae hp.out (C1.st O).okd ?_;clear hp g2 wp;refine zap (O.xc ..) rfl rfl (by decide) rfl Try.func54 (by kernel_rfl) (by kernel_rfl) ?_;walk_nrm;obtain rfl:=qw.out;clear qw;refine xload_cps O Pt (κ:=fun s v=>stepF (xcasP LB s (zbk v o.b) (fun t=>κ (if t then⟨true,zbk v o.b,[]⟩ else⟨false,0,[]⟩)))) (O.endUp (zaa Try.func35) rfl rfl (O.endMore qq LL)) (fun s v p A₁ w₁ L1 hH=>?_) _ _ _ _ C1;intro y2 qk w2 m2 C2;rw[Frame.finish_at];walk_nrm;have CA:=C2.less L1;obtain⟨oN1,qN⟩:=CA.mine N oN;obtain⟨oT1,qT⟩:=CA.mine T oT;obtain⟨oB1,qB⟩:=CA.mine (N+1) oB;obtain⟨oK1,qK⟩:=CA.mine (N+2) oK;have eN1:=qN.trans eN;have eT1:=qT.trans eT;have eB1:=qB.trans eB.out;have eK1:=qK.trans eK.out;clear qB qK qN qT;have hH2:HeldC qk w2.heap ib s v p:=hH.keep fun b t _ q=>C2.tg b t q;generalize qw:(fun s v=>stepF (xcasP LB s (zbk v o.b) (fun t=>κ (if t then⟨true,zbk v o.b,[]⟩ else⟨false,0,[]⟩)))) s v m2=mc;replace qw:=yay qw;obtain⟨K3,hN⟩:∃N,w2.heap.size=N:=⟨_,rfl⟩;have hOk:=(C2.st O).okd;have hD0:md.D w2.heap.size=none:=C2.dn O (yax _);refine zbg (O.xc ..) 4 2 (by decide) (by decide) (zai (by kernel_rfl)) (C2.st O) fun wp hp=>?_;simp only[yaf,yag,yad,yae];have qp:wp.heap.size=K3:=by rw[hp.heap,zaw];exact hN
 replace qp:=yay qp;replace hp:=yay hp;replace eN1:=yay eN1;replace eT1:=yay eT1;replace eB1:=yay eB1;replace eK1:=yay eK1
 try unfold gpv at *
 go_wp2_with fail
 refine⟨⟨rfl,rfl⟩,w2.alloc (.cells #[.pointer p,.pointer (some ⟨bb,0,none⟩)] 119),rfl,zeb hOk _,?_,?_⟩
 ·exact zea hp.out _ hD0
 rw[qp.out];clear hp qp wp;refine zad (O.xc ..) ?_;obtain rfl:=qv.out;clear qv;have e3:(w2.alloc (.cells #[.pointer p,.pointer (some ⟨bb,0,none⟩)] 119)).heap[K3]?=some (.cells #[.pointer p,gpv bb] 119 (0,0)):=by rw[←hN];exact heap_alloc_new _ _
 have k3:∀b,b<w2.heap.size→(w2.alloc (.cells #[.pointer p,.pointer (some ⟨bb,0,none⟩)] 119)).heap[b]?=w2.heap[b]?:=fun b hb=>Below.heap_alloc _ _ _ hb;have s3:(w2.alloc (.cells #[.pointer p,.pointer (some ⟨bb,0,none⟩)] 119)).heap.size=K3+1:=by rw[←hN];exact Array.size_push _
 generalize w2.alloc (.cells #[.pointer p,.pointer (some ⟨bb,0,none⟩)] 119)=w3 at *;obtain⟨own3,C3,hO3,hF3,hn3,ho3⟩:=C2.grown (w1:=w3) O (by omega) (fun b hb _=>k3 b hb);refine O.rebase hO3 hF3 ?_;have L3:Less md.i A₁ w₁ (fun b=>own3 b = .th md.i) ⟨w3.heap,m2,own3⟩:=zck C2 (fun b hb _=>k3 b hb) ho3;have o3:=hn3 K3 (by omega) (by omega);have LLL:=(LL.trans L1).trans L3;have hH3:HeldC own3 w3.heap ib s v p:=hH2.keep fun b t _ q=>by
  have qr:=C2.lt (b:=b) (by rw[q];simp);exact⟨(ho3 b qr).trans q,k3 b qr⟩
 have lt2:∀b,qk b = .th md.i→b<w2.heap.size:=fun b hb=>C2.lt (by rw[hb];simp);have oT3:=(ho3 T (lt2 _ oT1)).trans oT1;have eT3:=(k3 T (lt2 _ oT1)).trans eT1.out;have oN3:=(ho3 N (lt2 _ oN1)).trans oN1;have oB3:=(ho3 _ (lt2 _ oB1)).trans oB1;have oK3:=(ho3 _ (lt2 _ oK1)).trans oK1;have eN3:=(k3 N (lt2 _ oN1)).trans eN1.out;have eB3:=(k3 _ (lt2 _ oB1)).trans eB1.out;have eK3:=(k3 _ (lt2 _ oK1)).trans eK1.out;have nK:∀b,A b→b≠N+2:=fun b h=>by have:=hA.out _ h;omega
 clear hO3 hF3 hn3 ho3 k3 hD0 hOk hN C2 CA lt2 eN1 eB1 eK1 eT1 oN1 oB1 oK1 oT1 hH2 hH;rw[zde _ rfl];have hmc2:mc=stepF (xcasP LB s (zbk v o.b) (fun t=>κ (if t then⟨true,zbk v o.b,[]⟩ else⟨false,0,[]⟩))) m2:=qw.out.symm;clear qw;subst hmc2;refine z6y O (bb:=bb) (K3:=K3) (N:=N) (T:=T) (w₁:=⟨w3.heap,m2,own3⟩) (A1:=fun b=>own3 b = .th md.i) hH3 C3 oN3 o3 eN3 e3 rfl rfl rfl rfl rfl rfl fun x4 own4 w4 C4 u1 u3 u5 u6 u7 u9 u10=>?_;generalize qw:stepF (xcasP LB s (zbk v o.b) (fun t=>κ (if t then⟨true,zbk v o.b,[]⟩ else⟨false,0,[]⟩))) m2=mc;replace qw:=yay qw;obtain⟨oT4,qT⟩:=C4.mine T oT3;obtain⟨oH4,qH⟩:=C4.mine K3 o3;have eT4:=qT.trans eT3;have eH4:=qH.trans e3;clear qT qH;refine zas (c:=cB (cB (cA (zcs 14)))) (O.xc ..) rfl fun R0 qv=>?_;rw[show cA (cB (cB (cA (zcs 14))))=Code.region _ _ _ from rfl]
 unfold A35;simp only[u1,u3,u5,u6,u7,u9,u10];refine za5 (O.xc ..) 5 (by decide) (by decide) (zai (by kernel_rfl)) (C4.st O) fun wp hp=>?_;simp only[yad,yae];have h0:=(za8 hp (C4.dm O (by rw[oH4];simp))).trans eH4;have cK0:=zab h0 0;have cK1:=zab h0 1;have h1:=(za8 hp (C4.dm O (by rw[oT4];simp))).trans eT4;have g2:=zab h1 2;simp only[yac,yaa,yab] at cK0 cK1 g2;replace h0:=yay h0;replace h1:=yay h1;replace hp:=yay hp
 try unfold gpv at cK1
 try unfold gpv at g2
 try unfold gpv
 go_wp2_with fail
 refine zae hp.out (C4.st O).okd ?_;clear hp h0 h1 cK0 cK1 g2 wp;refine zap (O.xc ..) rfl rfl (by decide) rfl Try.func56 (by kernel_rfl) (by kernel_rfl) ?_;walk_nrm;obtain rfl:=qw.out;clear qw;refine xcas_cps O Pt hib (zhx _ _) hH3 (O.endUp (zaa Try.func35) rfl rfl (O.endMore qq LLL)) (fun t=>?_) _ own4 w4 m2 C4;intro y5 own5 w5 m5 C5;rw[Frame.finish_at];walk_nrm;generalize hmc4:κ (if t then⟨true,zbk v o.b,[]⟩ else⟨false,0,[]⟩) m5=mc4;replace hmc4:=yay hmc4;obtain⟨oK5,qK⟩:=C5.mine (N+2) oK3;have eK5:=qK.trans eK3;refine zbg (O.xc ..) 6 2 (by decide) (by decide) (zai (by kernel_rfl)) (C5.st O) fun wp hp=>?_;simp only[yaf,yag,yad,yae];obtain⟨k0,k1,z0,z1⟩:=C5.kf O hp oK5 eK5;replace hp:=yay hp;replace eK5:=yay eK5;replace eN3:=yay eN3;replace eT3:=yay eT3;replace e3:=yay e3;replace eB3:=yay eB3;replace eK3:=yay eK3;replace eT4:=yay eT4;replace eH4:=yay eH4
 try unfold gpv
 go_wp2_with fail
 refine⟨⟨rfl,rfl⟩,w5.setCell ⟨N+2,0,none⟩ (.bool t),rfl,zba (C5.st O).okd _ _,zao hp.out _ _,?_⟩;clear hp k0 k1 z0 z1 wp;refine zad (O.xc ..) ?_;have C5':=C5.less (zs9 (A:=fun b=>own3 b = .th md.i∧b≠N+2) fun b hb=>hb.1);obtain⟨C6,F6⟩:=C5'.wrote (w1:=w5.setCell ⟨N+2,0,none⟩ (.bool t)) O oK5 (fun z=>z.2 rfl) (by simp[World.setCell]) (fun b hb=>Below.heap_setCell _ _ _ _ hb);refine O.rebase .refl F6 ?_;obtain rfl:=qv.out;clear qv;have eK6:(w5.setCell ⟨N+2,0,none⟩ (.bool t)).heap[N+2]?=some (.cells #[.bool t,.int .i64 0,.slice none 0 0] 42 (0,0)):=zal eK5.out 0 (.bool t);generalize w5.setCell ⟨N+2,0,none⟩ (.bool t)=w6 at *;have hBK:N+1≠N+2:=by omega
 obtain⟨oB6,qB⟩:=C6.mine (N+1) ⟨oB3,hBK⟩;have eB6:=qB.trans eB3.out;clear qB qK;have LL6:Less md.i A w₀ (fun b=>own3 b = .th md.i∧b≠N+2) ⟨w3.heap,m2,own3⟩:=LLL.drop nK;refine zas (c:=cB (cB (cB (cA (zcs 14))))) (O.xc ..) rfl fun R0 qv=>?_;rw[show cA (cB (cB (cB (cA (zcs 14)))))=Code.region _ _ _ from rfl]
 refine O.seg0 C6 zbc (zac zag (by kernel_rfl)) rfl (zaa Try.func35) rfl fun wp hp=>?_;obtain⟨k0,k1,z0,z1⟩:=C6.kf O hp oK5 eK6;replace hp:=yay hp;replace eK6:=yay eK6;replace eB6:=yay eB6
 go_wp2_with fail
 refine⟨hp.out,?_⟩;clear hp k0 k1 z0 z1 wp;obtain rfl:=qv.out;clear qv;rw[show cB (cB (cB (cB (cA (zcs 14)))))=Code.cond (.tmp 166) (cA (cB (cB (cB (cB (cA (zcs 14))))))) .skip from rfl]
 cases t with
 | false =>
  refine zau (O.xc ..) (t:=false) rfl ?_;refine zbf (O.xc ..) ?_;refine za6 (O.xc ..) ?_;rw[zde _ rfl];obtain rfl:=hmc4.out;exact zkh O C6 LL6 hA.out oB6 eB6.out rfl ⟨false,0,[]⟩ rfl oK5 eK6.out rfl rfl (qu.out ⟨false,0,[]⟩)
 | true =>
  refine zau (O.xc ..) (t:=true) rfl ?_;rw[if_pos rfl];rw[show cA (cB (cB (cB (cB (cA (zcs 14))))))=Code.region _ _ _ from rfl]
  have nK2:¬A (N+2):=fun h=>nK _ h rfl;refine za5 (O.xc ..) 3 (by decide) (by decide) (zai (by kernel_rfl)) (C6.st O) fun wp hp=>?_;simp only[yad,yae];have hk:=(za8 hp (C6.dm O (by rw[oK5];simp))).trans eK6.out;have k0:=zab hk 0;have k1:=zab hk 1;have z0:=zam hk 0;have z1:=zam hk 1;simp only[yac,yaa,yab] at k0 k1;replace hk:=yay hk;replace hp:=yay hp
  go_wp2_with fail
  refine⟨⟨rfl,rfl⟩,w6.setCell ⟨N+2,1,none⟩ (.int .i64 (zbk v o.b)),rfl,zba (C6.st O).okd _ _,zao hp.out _ _,?_⟩;clear hp hk k0 k1 z0 z1 wp;refine zad (O.xc ..) ?_;refine za6 (O.xc ..) ?_;obtain⟨C7,F7⟩:=(C6.less LL6).wrote (w1:=w6.setCell ⟨N+2,1,none⟩ (.int .i64 (zbk v o.b))) O oK5 nK2 (by simp[World.setCell]) (fun b hb=>Below.heap_setCell _ _ _ _ hb);refine O.rebase .refl F7 ?_;obtain rfl:=hmc4.out;rw[zde _ rfl];exact zkh O C7 .refl hA.out oB6 ((Below.heap_setCell _ _ _ _ hBK).trans eB6.out) rfl ⟨true,zbk v o.b,[]⟩ rfl oK5 (zal eK6.out 1 (.int .i64 (zbk v o.b))) rfl rfl (qu.out ⟨true,zbk v o.b,[]⟩)
theorem z3z(O:md.Ok)(C:md.C y own A1 w₁ w m)(LL:Less md.i A w₀ A1 w₁)(hA:∀b,A b→b<N)(oB:own (N+1) = .th md.i)(eB:w.heap[N+1]?=some (.cells #[.bool false,.int .i64 0,.slice none 0 0] 42 (0,0)))(x6:x 6 = .pointer (some ⟨N+1,0,none⟩))
  (qu:∀v y own w m,md.C y own A w₀ w m→LRow (.th md.i) lo own w v []→(∀g,v.ownBlock=some g→¬A g)→md.GO y own w (κ ⟨false,0,[]⟩ m) (G (c.finish (zf9 ⟨false,0,[]⟩ v)) cs) w) :
  md.GO y own w (κ ⟨false,0,[]⟩ m) (G ((base 35).at (A35 x) (.code (cB (zcs 14))::R)) (c::cs)) w:=by
 generalize qw:κ ⟨false,0,[]⟩ m=mc;replace qw:=yay qw;replace qu:=yay qu;replace hA:=yay hA;refine zas (c:=cB (zcs 14)) (O.xc ..) rfl fun R0 qv=>?_;rw[show cA (cB (zcs 14))=Code.region _ _ _ from rfl]
 unfold A35;simp only[x6];refine za5 (O.xc ..) 2 (by decide) (by decide) (zai (by kernel_rfl)) (C.st O) fun wp hp=>?_;simp only[yad,yae];have hg:=(za8 hp (C.dm O (by rw[oB];simp))).trans eB;have c0:=zab hg 0;have c1:=zab hg 1;have c2:=zab hg 2;have z0:=zam hg 0;have z1:=zam hg 1;have z2:=zam hg 2;simp only[yac,yaa,yab] at c0 c1 c2;replace hg:=yay hg;replace hp:=yay hp;replace eB:=yay eB
 go_wp2_with fail
 refine⟨⟨rfl,rfl⟩,zkk _ (N+1) ⟨false,0,[]⟩ (.slice none 0 0),rfl,zhc (C.st O).okd _ _ _,zhb hp.out _ ⟨false,0,[]⟩ (.slice none 0 0),?_⟩;clear hg hp c0 c1 c2 z0 z1 z2 wp;refine zad (O.xc ..) ?_;obtain rfl:=qv.out;clear qv;rw[show cB (cB (zcs 14))=Code.ret from rfl]
 obtain rfl:=qw.out;exact zma O C LL (fun h=>by have:=hA.out _ h;omega) oB eB.out rfl ⟨false,0,[]⟩ LRow.nil (fun g hg=>by cases hg) (qu.out _) Try.func35 (zaa Try.func35) rfl rfl
end
noncomputable def c96:Code:=(Try.f96.body).getD .skip
def A96(x:Nat→Value):Act:=⟨#[x 0,x 1,x 2,x 3,x 4,x 5,x 6,x 7,x 8,x 9,x 10,x 11,x 12,x 13,x 14,x 15,x 16,x 17,x 18,x 19,x 20,x 21,x 22,x 23,x 24,x 25,x 26,x 27,x 28,x 29,x 30,x 31,x 32,x 33,x 34,x 35,x 36,x 37,x 38,x 39,x 40,x 41,x 42,x 43,x 44,x 45,x 46,x 47,x 48,x 49,x 50,x 51,x 52,x 53,x 54,x 55,x 56,x 57,x 58,x 59,x 60,x 61,x 62,x 63,x 64,x 65,x 66,x 67,x 68,x 69,x 70,x 71,x 72,x 73,x 74,x 75,x 76,x 77,x 78,x 79,x 80,x 81,x 82,x 83,x 84,x 85,x 86,x 87,x 88,x 89,x 90,x 91,x 92,x 93,x 94,x 95,x 96,x 97,x 98,x 99,x 100,x 101,x 102,x 103,x 104,x 105,x 106,x 107,x 108,x 109,x 110,x 111,x 112,x 113,x 114,x 115,x 116,x 117,x 118,x 119,x 120,x 121,x 122,x 123,x 124,x 125,x 126,x 127,x 128,x 129,x 130,x 131,x 132,x 133,x 134,x 135,x 136,x 137,x 138,x 139,x 140,x 141,x 142,x 143,x 144,x 145,x 146,x 147,x 148,x 149,x 150,x 151,x 152,x 153,x 154,x 155,x 156,x 157,x 158,x 159,x 160,x 161,x 162,x 163,x 164,x 165,x 166,x 167,x 168,x 169,x 170,x 171,x 172,x 173,x 174,x 175,x 176,x 177,x 178,x 179,x 180,x 181,x 182,x 183,x 184,x 185,x 186,x 187,x 188,x 189,x 190,x 191,x 192,x 193,x 194,x 195,x 196],[]⟩
theorem zc5(l:Array Value)(hl:l.size=197):(⟨l,[]⟩:Act)=A96 fun j=>l.getD j undef:=by
 have e:∀x:Nat→Value,(A96 x).tmps=((List.range 197).map x).toArray:=fun x=>rfl;have h1:l=(A96 fun j=>l.getD j undef).tmps:=by
  rw[e];apply Array.ext_getElem?;intro i;by_cases h:i<197
  ·have h':i<l.size:=by omega
   simp[h,h',List.getElem?_range]
  ·have h':¬i<l.size:=by omega
   rw[Array.getElem?_eq_none (by omega),Array.getElem?_eq_none (by simp;omega)]
 exact congrArg (Act.mk · []) h1
noncomputable def zcn:Nat→Code
 | 0=>cB (cA (cB (cA (cB (cB (cB (cB c96)))))))
 | k+1=>cB (cB (zcn k))
noncomputable def zex:Code:=cB (cB (cB (cB (cB c96))))
structure zq8{S:Type}(md:Md (SM S))(wb fb bb lo:Nat)(A:Nat→Prop)(w₀:W0 (SM S))(c:Frame)(cs:List Frame)(κ:Ans→Fu (SM S))(o:OpD)(y:md.β)(qm:Nat→Owner)(w1:World)(m:SM S)(N:Nat)(x:Nat→Value):Prop where
 ho:o.Ok
 qq:md.End A w₀ c cs
 qu:∀r v y own w m,md.C y own A w₀ w m→LRow (.th md.i) lo own w v r.l→(∀g,v.ownBlock=some g→¬A g)→md.GO y own w (κ r m) (G (c.finish (zf9 r v)) cs) w
 C:md.C y qm (fun b=>qm b = .th md.i) ⟨w1.heap,m,qm⟩ w1 m
 LL:Less md.i A w₀ (fun b=>qm b = .th md.i) ⟨w1.heap,m,qm⟩
 hA:∀b,A b→b<N
 oN:qm N = .th md.i
 eN:w1.heap[N]?=some (.cells #[.int .i64 o.kind,.int .i64 o.a,.int .i64 o.b,.int .i64 o.c] 45 (0,0))
 oB:qm (N+1) = .th md.i
 eB:w1.heap[N+1]?=some (.cells #[.bool false,.int .i64 0,.slice none 0 0] 42 (0,0))
 oK:qm (N+2) = .th md.i
 eK:w1.heap[N+2]?=some (.cells #[.bool true,.int .i64 0,.slice none 0 0] 42 (0,0))
 x1:x 1=md.sv
 x7:x 7 = .pointer (some ⟨N,0,none⟩)
 x8:x 8 = .pointer (some ⟨N+1,0,none⟩)
 x9:x 9=gpv wb
 x10:x 10=gpv fb
 x11:x 11=gpv bb
 x12:x 12 = .pointer (some ⟨N+2,0,none⟩)
section
variable{S:Type}{md:Md (SM S)}{LW:zco S Int}{LF:zco S Bool}{LB:zco S BoxS}{ib wb fb bb lo:Nat}{TW TF:Nat→Prop}{A A1:Nat→Prop}{w₀ w₁:W0 (SM S)}{c:Frame}{cs:List Frame}{κ:Ans→Fu (SM S)}{o:OpD}{y:md.β}{qm:Nat→Owner}{w1:World}{m:SM S}{N:Nat}{x:Nat→Value}{R:List Item}
theorem zkf{own:Nat→Owner}{w:World}(O:md.Ok)(C:md.C y own A1 w₁ w m)(LL:Less md.i A w₀ A1 w₁)(hA:∀b,A b→b<N)(oB:own (N+1) = .th md.i){cc:Array Value}(eB:w.heap[N+1]?=some (.cells cc 42 (0,0)))(hcc:cc.size=3)(r:Ans)(hr:r.l=[])
  (oK:own (N+2) = .th md.i) (eK:w.heap[N+2]?=some (.cells #[.bool r.ok,.int .i64 r.n,.slice none 0 0] 42 (0,0))) (x8:x 8 = .pointer (some ⟨N+1,0,none⟩)) (x12:x 12 = .pointer (some ⟨N+2,0,none⟩))
  (qu:∀v y own w m,md.C y own A w₀ w m→LRow (.th md.i) lo own w v r.l→(∀g,v.ownBlock=some g→¬A g)→md.GO y own w (κ r m) (G (c.finish (zf9 r v)) cs) w) :
  md.GO y own w (κ r m) (G ((base 96).at (A96 x) [.code zex]) (c::cs)) w:=by
 generalize qw:κ r m=mc;replace qw:=yay qw;replace qu:=yay qu;replace hA:=yay hA;refine zas (c:=zex) (O.xc ..) rfl fun R0 qv=>?_;rw[show cA zex=Code.region _ _ _ from rfl]
 unfold A96;simp only[x8,x12];refine za5 (O.xc ..) 2 (by decide) (by decide) (zai (by kernel_rfl)) (C.st O) fun wp hp=>?_;simp only[yad,yae];obtain⟨u0,u1,u2,hcc3⟩:∃a b c,cc=#[a,b,c]:=by
  rcases cc with⟨l⟩
  match l,hcc with
  | [a,b,c],_=>exact⟨a,b,c,rfl⟩
 subst hcc3;have hg:=(za8 hp (C.dm O (by rw[oB];simp))).trans eB;have hk:=(za8 hp (C.dm O (by rw[oK];simp))).trans eK;have k0:=zab hk 0;have k1:=zab hk 1;have k2:=zab hk 2;have c0:=zab hg 0;have c1:=zab hg 1;have c2:=zab hg 2;have z0:=zam hg 0;have z1:=zam hg 1;have z2:=zam hg 2;simp only[yac,yaa,yab] at c0 c1 c2 k0 k1 k2;replace hg:=yay hg;replace hk:=yay hk;replace hp:=yay hp;replace eK:=yay eK;replace eB:=yay eB
 go_wp2_with fail
 refine⟨⟨rfl,rfl⟩,zkk _ (N+1) r (.slice none 0 0),rfl,zhc (C.st O).okd _ _ _,zhb hp.out _ r (.slice none 0 0),?_⟩;clear hg hk hp c0 c1 c2 z0 z1 z2 k0 k1 k2 wp;refine zad (O.xc ..) ?_;obtain rfl:=qv.out;clear qv;rw[show cB zex=Code.ret from rfl]
 obtain rfl:=qw.out;exact zma O C LL (fun h=>by have:=hA.out _ h;omega) oB eB.out rfl r (by rw[hr];exact LRow.nil) (fun g hg=>by cases hg) (qu.out _) Try.func96 (zaa Try.func96) rfl rfl
theorem zoo{own:Nat→Owner}{w:World}{ops:Array Oper}{n0:Int}(O:md.Ok)(C:md.C y own A w₀ w m)(nK:¬A (N+2))(hA:∀b,A b→b<N)(oB:own (N+1) = .th md.i)(eB:w.heap[N+1]?=some (.cells #[.bool false,.int .i64 0,.slice none 0 0] 42 (0,0)))(r:Ans)(hr:r.l=[])
  (oK:own (N+2) = .th md.i) (eK:w.heap[N+2]?=some (.cells #[.bool r.ok,.int .i64 n0,.slice none 0 0] 42 (0,0))) (xa:x 8 = .pointer (some ⟨N+1,0,none⟩)) (xb:x 12 = .pointer (some ⟨N+2,0,none⟩))
  (qu:∀v y own w m,md.C y own A w₀ w m→LRow (.th md.i) lo own w v r.l→(∀g,v.ownBlock=some g→¬A g)→md.GO y own w (κ r m) (G (c.finish (zf9 r v)) cs) w) :
  md.GO y own w (κ r m) (G ((base 96).at (A96 x) [.inRegion ops [],.inBlock 0,.code zex]) (c::cs)) (w.setCell ⟨N+2,1,none⟩ (.int .i64 r.n)):=by
 refine zad (O.xc ..) ?_;refine za6 (O.xc ..) ?_;have hk:∀b,b≠N+2→(w.setCell ⟨N+2,1,none⟩ (.int .i64 r.n)).heap[b]?=w.heap[b]?:=fun b hb=>Below.heap_setCell _ _ _ _ hb;obtain⟨C3,F3⟩:=C.wrote (w1:=(w.setCell ⟨N+2,1,none⟩ (.int .i64 r.n))) O oK nK (by simp[World.setCell]) hk;exact O.rebase .refl F3 (zkf O C3 .refl hA oB ((hk _ (by omega)).trans eB) rfl r hr oK (zal eK 1 (.int .i64 r.n)) xa xb qu)
theorem zop{own:Nat→Owner}{w:World}{ops:Array Oper}{b0:Bool}(O:md.Ok)(C:md.C y own A w₀ w m)(nK:¬A (N+2))(hA:∀b,A b→b<N)(oB:own (N+1) = .th md.i)(eB:w.heap[N+1]?=some (.cells #[.bool false,.int .i64 0,.slice none 0 0] 42 (0,0)))(r:Ans)(hr:r.l=[])
  (oK:own (N+2) = .th md.i) (eK:w.heap[N+2]?=some (.cells #[.bool b0,.int .i64 r.n,.slice none 0 0] 42 (0,0))) (xa:x 8 = .pointer (some ⟨N+1,0,none⟩)) (xb:x 12 = .pointer (some ⟨N+2,0,none⟩))
  (qu:∀v y own w m,md.C y own A w₀ w m→LRow (.th md.i) lo own w v r.l→(∀g,v.ownBlock=some g→¬A g)→md.GO y own w (κ r m) (G (c.finish (zf9 r v)) cs) w) :
  md.GO y own w (κ r m) (G ((base 96).at (A96 x) [.inRegion ops [],.inBlock 0,.code zex]) (c::cs)) (w.setCell ⟨N+2,0,none⟩ (.bool r.ok)):=by
 refine zad (O.xc ..) ?_;refine za6 (O.xc ..) ?_;have hk:∀b,b≠N+2→(w.setCell ⟨N+2,0,none⟩ (.bool r.ok)).heap[b]?=w.heap[b]?:=fun b hb=>Below.heap_setCell _ _ _ _ hb;obtain⟨C3,F3⟩:=C.wrote (w1:=(w.setCell ⟨N+2,0,none⟩ (.bool r.ok))) O oK nK (by simp[World.setCell]) hk;exact O.rebase .refl F3 (zkf O C3 .refl hA oB ((hk _ (by omega)).trans eB) rfl r hr oK (zal eK 0 (.bool r.ok)) xa xb qu)
theorem zsd{own:Nat→Owner}{w:World}{ops:Array Oper}{n0:Int}{b0:Bool}(O:md.Ok)(C:md.C y own A w₀ w m)(nK:¬A (N+2))(hA:∀b,A b→b<N)(oB:own (N+1) = .th md.i)(eB:w.heap[N+1]?=some (.cells #[.bool false,.int .i64 0,.slice none 0 0] 42 (0,0)))(r:Ans)(hr:r.l=[])
  (oK:own (N+2) = .th md.i) (eK:w.heap[N+2]?=some (.cells #[.bool b0,.int .i64 n0,.slice none 0 0] 42 (0,0))) (xa:x 8 = .pointer (some ⟨N+1,0,none⟩)) (xb:x 12 = .pointer (some ⟨N+2,0,none⟩))
  (qu:∀v y own w m,md.C y own A w₀ w m→LRow (.th md.i) lo own w v r.l→(∀g,v.ownBlock=some g→¬A g)→md.GO y own w (κ r m) (G (c.finish (zf9 r v)) cs) w) :
  md.GO y own w (κ r m) (G ((base 96).at (A96 x) [.inRegion ops [],.inBlock 0,.code zex]) (c::cs)) ((w.setCell ⟨N+2,1,none⟩ (.int .i64 r.n)).setCell ⟨N+2,0,none⟩ (.bool r.ok)):=by
 refine zad (O.xc ..) ?_;refine za6 (O.xc ..) ?_;have hk:∀b,b≠N+2→((w.setCell ⟨N+2,1,none⟩ (.int .i64 r.n)).setCell ⟨N+2,0,none⟩ (.bool r.ok)).heap[b]?=w.heap[b]?:=fun b hb=>(Below.heap_setCell _ _ _ _ hb).trans (Below.heap_setCell _ _ _ _ hb);obtain⟨C3,F3⟩:=C.wrote (w1:=((w.setCell ⟨N+2,1,none⟩ (.int .i64 r.n)).setCell ⟨N+2,0,none⟩ (.bool r.ok))) O oK nK (by simp[World.setCell]) hk;exact O.rebase .refl F3 (zkf O C3 .refl hA oB ((hk _ (by omega)).trans eB) rfl r hr oK (zal (zal eK 1 (.int .i64 r.n)) 0 (.bool r.ok)) xa xb qu)
theorem z3r(O:md.Ok)(Pt:Part md LW (WAt wb) wb TW)(I:zq8 md wb fb bb lo A w₀ c cs κ o y qm w1 m N x) :
  md.GO y qm w1 (zd7 LW (fun r=>κ ⟨true,r,[]⟩) m) (G ((base 96).at (A96 x) (.code (cA (zcn 0)) :: .inBlock 0 :: .code zex::[])) (c::cs)) w1:=by
 generalize qw:zd7 LW (fun r=>κ ⟨true,r,[]⟩) m=mc;replace qw:=yay qw;rw[show cA (zcn 0)=Code.region _ _ _ from rfl]
 unfold A96;simp only[I.x1,I.x7,I.x8,I.x9,I.x10,I.x11,I.x12];unfold gpv;refine za5 (O.xc ..) 2 (by decide) (by decide) (zai (by kernel_rfl)) (I.C.st O) fun wp hp=>?_;simp only[yad,yae];replace hp:=yay hp
 go_wp2_with fail
 refine zae hp.out (I.C.st O).okd ?_;clear hp  wp;refine zap (O.xc ..) rfl rfl (by decide) rfl Try.func46 (by kernel_rfl) (by kernel_rfl) ?_;walk_nrm;obtain rfl:=qw.out;clear qw;refine zga O Pt (κ:=fun r=>κ ⟨true,r,[]⟩) (.inr rfl) (O.endUp (zaa Try.func96) rfl rfl (O.endMore I.qq I.LL)) (fun _ r hr=>?_) _ _ _ _ I.C;clear hr;intro y2 qk w2 m2 C2;rw[Frame.finish_at];walk_nrm;obtain⟨⟨oB1,eB1⟩,⟨oK1,eK1⟩,C2',nK⟩:=C2.two I.oB I.oK I.eB I.eK I.LL I.hA;generalize qw:κ ⟨true,r,[]⟩ m2=mc;replace qw:=yay qw;refine zbg (O.xc ..) 3 2 (by decide) (by decide) (zai (by kernel_rfl)) (C2.st O) fun wp hp=>?_;simp only[yaf,yag,yad,yae];obtain⟨k0,k1,z0,z1⟩:=C2.kf O hp oK1 eK1;replace hp:=yay hp;replace eK1:=yay eK1
 go_wp2_with fail
 refine⟨⟨rfl,rfl⟩,w2.setCell ⟨N+2,1,none⟩ (.int .i64 r),rfl,zba (C2.st O).okd _ _,zao hp.out _ _,?_⟩;clear hp k0 k1 z0 z1 wp;obtain rfl:=qw.out;rw[zc5 _ rfl];exact zoo O C2' nK I.hA oB1 eB1 ⟨true,r,[]⟩ rfl oK1 eK1.out rfl rfl (I.qu _)
theorem z0f(O:md.Ok)(Pt:Part md LW (WAt wb) wb TW)(I:zq8 md wb fb bb lo A w₀ c cs κ o y qm w1 m N x) :
  md.GO y qm w1 (zfq LW o.b (κ ⟨true,0,[]⟩) m) (G ((base 96).at (A96 x) (.code (cA (zcn 1)) :: .inBlock 0 :: .code zex::[])) (c::cs)) w1:=by
 generalize qw:zfq LW o.b (κ ⟨true,0,[]⟩) m=mc;replace qw:=yay qw;rw[show cA (zcn 1)=Code.region _ _ _ from rfl]
 unfold A96;simp only[I.x1,I.x7,I.x8,I.x9,I.x10,I.x11,I.x12];unfold gpv;refine za5 (O.xc ..) 4 (by decide) (by decide) (zai (by kernel_rfl)) (I.C.st O) fun wp hp=>?_;simp only[yad,yae];obtain⟨f1,f2,f3⟩:=zf8 hp I.eN;replace hp:=yay hp
 go_wp2_with fail
 refine zae hp.out (I.C.st O).okd ?_;clear hp f1 f2 f3 wp;refine zap (O.xc ..) rfl rfl (by decide) rfl Try.func102 (by kernel_rfl) (by kernel_rfl) ?_;walk_nrm;obtain rfl:=qw.out;clear qw;refine zmo O Pt (κ:=κ ⟨true,0,[]⟩) I.ho.b (O.endUp (zaa Try.func96) rfl rfl (O.endMore I.qq I.LL)) (?_) _ _ _ _ I.C;intro y2 qk w2 m2 C2;rw[Frame.finish_at];walk_nrm;obtain⟨⟨oB1,eB1⟩,⟨oK1,eK1⟩,C2',nK⟩:=C2.two I.oB I.oK I.eB I.eK I.LL I.hA;generalize qw:κ ⟨true,0,[]⟩ m2=mc;replace qw:=yay qw;refine zad (O.xc ..) ?_;refine za6 (O.xc ..) ?_;rw[zc5 _ rfl];obtain rfl:=qw.out;exact zkf O C2' .refl I.hA oB1 eB1 rfl ⟨true,0,[]⟩ rfl oK1 eK1 rfl rfl (I.qu ⟨true,0,[]⟩)
theorem z5t(O:md.Ok)(Pt:Part md LW (WAt wb) wb TW)(I:zq8 md wb fb bb lo A w₀ c cs κ o y qm w1 m N x) :
  md.GO y qm w1 (zmf LW o.b (fun r=>κ ⟨true,r,[]⟩) m) (G ((base 96).at (A96 x) (.code (cA (zcn 2)) :: .inBlock 0 :: .code zex::[])) (c::cs)) w1:=by
 generalize qw:zmf LW o.b (fun r=>κ ⟨true,r,[]⟩) m=mc;replace qw:=yay qw;rw[show cA (zcn 2)=Code.region _ _ _ from rfl]
 unfold A96;simp only[I.x1,I.x7,I.x8,I.x9,I.x10,I.x11,I.x12];unfold gpv;refine za5 (O.xc ..) 4 (by decide) (by decide) (zai (by kernel_rfl)) (I.C.st O) fun wp hp=>?_;simp only[yad,yae];obtain⟨f1,f2,f3⟩:=zf8 hp I.eN;replace hp:=yay hp
 go_wp2_with fail
 refine zae hp.out (I.C.st O).okd ?_;clear hp f1 f2 f3 wp;refine zap (O.xc ..) rfl rfl (by decide) rfl Try.func47 (by kernel_rfl) (by kernel_rfl) ?_;walk_nrm;obtain rfl:=qw.out;clear qw;refine znq O Pt (κ:=fun r=>κ ⟨true,r,[]⟩) (O.endUp (zaa Try.func96) rfl rfl (O.endMore I.qq I.LL)) (fun r hr=>?_) _ _ _ _ I.C;clear hr;intro y2 qk w2 m2 C2;rw[Frame.finish_at];walk_nrm;obtain⟨⟨oB1,eB1⟩,⟨oK1,eK1⟩,C2',nK⟩:=C2.two I.oB I.oK I.eB I.eK I.LL I.hA;generalize qw:κ ⟨true,r,[]⟩ m2=mc;replace qw:=yay qw;refine zbg (O.xc ..) 5 2 (by decide) (by decide) (zai (by kernel_rfl)) (C2.st O) fun wp hp=>?_;simp only[yaf,yag,yad,yae];obtain⟨k0,k1,z0,z1⟩:=C2.kf O hp oK1 eK1;replace hp:=yay hp;replace eK1:=yay eK1
 go_wp2_with fail
 refine⟨⟨rfl,rfl⟩,w2.setCell ⟨N+2,1,none⟩ (.int .i64 r),rfl,zba (C2.st O).okd _ _,zao hp.out _ _,?_⟩;clear hp k0 k1 z0 z1 wp;obtain rfl:=qw.out;rw[zc5 _ rfl];exact zoo O C2' nK I.hA oB1 eB1 ⟨true,r,[]⟩ rfl oK1 eK1.out rfl rfl (I.qu _)
theorem z3p(O:md.Ok)(Pt:Part md LW (WAt wb) wb TW)(I:zq8 md wb fb bb lo A w₀ c cs κ o y qm w1 m N x) :
  md.GO y qm w1 (zif LW o.b (fun r=>κ ⟨true,r,[]⟩) m) (G ((base 96).at (A96 x) (.code (cA (zcn 3)) :: .inBlock 0 :: .code zex::[])) (c::cs)) w1:=by
 generalize qw:zif LW o.b (fun r=>κ ⟨true,r,[]⟩) m=mc;replace qw:=yay qw;rw[show cA (zcn 3)=Code.region _ _ _ from rfl]
 unfold A96;simp only[I.x1,I.x7,I.x8,I.x9,I.x10,I.x11,I.x12];unfold gpv;refine za5 (O.xc ..) 4 (by decide) (by decide) (zai (by kernel_rfl)) (I.C.st O) fun wp hp=>?_;simp only[yad,yae];obtain⟨f1,f2,f3⟩:=zf8 hp I.eN;replace hp:=yay hp
 go_wp2_with fail
 refine zae hp.out (I.C.st O).okd ?_;clear hp f1 f2 f3 wp;refine zap (O.xc ..) rfl rfl (by decide) rfl Try.func48 (by kernel_rfl) (by kernel_rfl) ?_;walk_nrm;obtain rfl:=qw.out;clear qw;refine zpc O Pt (κ:=fun r=>κ ⟨true,r,[]⟩) I.ho.b (O.endUp (zaa Try.func96) rfl rfl (O.endMore I.qq I.LL)) (fun r hr=>?_) _ _ _ _ I.C;clear hr;intro y2 qk w2 m2 C2;rw[Frame.finish_at];walk_nrm;obtain⟨⟨oB1,eB1⟩,⟨oK1,eK1⟩,C2',nK⟩:=C2.two I.oB I.oK I.eB I.eK I.LL I.hA;generalize qw:κ ⟨true,r,[]⟩ m2=mc;replace qw:=yay qw;refine zbg (O.xc ..) 5 2 (by decide) (by decide) (zai (by kernel_rfl)) (C2.st O) fun wp hp=>?_;simp only[yaf,yag,yad,yae];obtain⟨k0,k1,z0,z1⟩:=C2.kf O hp oK1 eK1;replace hp:=yay hp;replace eK1:=yay eK1
 go_wp2_with fail
 refine⟨⟨rfl,rfl⟩,w2.setCell ⟨N+2,1,none⟩ (.int .i64 r),rfl,zba (C2.st O).okd _ _,zao hp.out _ _,?_⟩;clear hp k0 k1 z0 z1 wp;obtain rfl:=qw.out;rw[zc5 _ rfl];exact zoo O C2' nK I.hA oB1 eB1 ⟨true,r,[]⟩ rfl oK1 eK1.out rfl rfl (I.qu _)
theorem z5s(O:md.Ok)(Pt:Part md LW (WAt wb) wb TW)(I:zq8 md wb fb bb lo A w₀ c cs κ o y qm w1 m N x) :
  md.GO y qm w1 (zhi LW o.b o.c (fun t=>κ ⟨t,0,[]⟩) m) (G ((base 96).at (A96 x) (.code (cA (zcn 4)) :: .inBlock 0 :: .code zex::[])) (c::cs)) w1:=by
 generalize qw:zhi LW o.b o.c (fun t=>κ ⟨t,0,[]⟩) m=mc;replace qw:=yay qw;rw[show cA (zcn 4)=Code.region _ _ _ from rfl]
 unfold A96;simp only[I.x1,I.x7,I.x8,I.x9,I.x10,I.x11,I.x12];unfold gpv;refine za5 (O.xc ..) 6 (by decide) (by decide) (zai (by kernel_rfl)) (I.C.st O) fun wp hp=>?_;simp only[yad,yae];obtain⟨f1,f2,f3⟩:=zf8 hp I.eN;replace hp:=yay hp
 go_wp2_with fail
 refine zae hp.out (I.C.st O).okd ?_;clear hp f1 f2 f3 wp;refine zap (O.xc ..) rfl rfl (by decide) rfl Try.func49 (by kernel_rfl) (by kernel_rfl) ?_;walk_nrm;obtain rfl:=qw.out;clear qw;refine zg3 O Pt (κ:=fun t=>κ ⟨t,0,[]⟩) I.ho.c (O.endUp (zaa Try.func96) rfl rfl (O.endMore I.qq I.LL)) (fun t=>?_) _ _ _ _ I.C;intro y2 qk w2 m2 C2;rw[Frame.finish_at];walk_nrm;obtain⟨⟨oB1,eB1⟩,⟨oK1,eK1⟩,C2',nK⟩:=C2.two I.oB I.oK I.eB I.eK I.LL I.hA;generalize qw:κ ⟨t,0,[]⟩ m2=mc;replace qw:=yay qw;refine zbg (O.xc ..) 7 2 (by decide) (by decide) (zai (by kernel_rfl)) (C2.st O) fun wp hp=>?_;simp only[yaf,yag,yad,yae];obtain⟨k0,k1,z0,z1⟩:=C2.kf O hp oK1 eK1;replace hp:=yay hp;replace eK1:=yay eK1
 go_wp2_with fail
 refine⟨⟨rfl,rfl⟩,w2.setCell ⟨N+2,0,none⟩ (.bool t),rfl,zba (C2.st O).okd _ _,zao hp.out _ _,?_⟩;clear hp k0 k1 z0 z1 wp;obtain rfl:=qw.out;rw[zc5 _ rfl];exact zop O C2' nK I.hA oB1 eB1 ⟨t,0,[]⟩ rfl oK1 eK1.out rfl rfl (I.qu _)
theorem zse(O:md.Ok)(Pt:Part md LW (WAt wb) wb TW)(f:Nat)(I:zq8 md wb fb bb lo A w₀ c cs κ o y qm w1 m N x) :
  md.GO y qm w1 (zbt LW (grT o.b) (fun r t=>κ ⟨t,r,[]⟩) f m) (G ((base 96).at (A96 x) (.code (cA (zcn 5)) :: .inBlock 0 :: .code zex::[])) (c::cs)) w1:=by
 generalize qw:zbt LW (grT o.b) (fun r t=>κ ⟨t,r,[]⟩) f m=mc;replace qw:=yay qw;rw[show cA (zcn 5)=Code.region _ _ _ from rfl]
 unfold A96;simp only[I.x1,I.x7,I.x8,I.x9,I.x10,I.x11,I.x12];unfold gpv;refine za5 (O.xc ..) 4 (by decide) (by decide) (zai (by kernel_rfl)) (I.C.st O) fun wp hp=>?_;simp only[yad,yae];obtain⟨f1,f2,f3⟩:=zf8 hp I.eN;replace hp:=yay hp
 go_wp2_with fail
 refine zae hp.out (I.C.st O).okd ?_;clear hp f1 f2 f3 wp;refine zap (O.xc ..) rfl rfl (by decide) rfl Try.func57 (by kernel_rfl) (by kernel_rfl) ?_;walk_nrm;obtain rfl:=qw.out;clear qw;refine zke O Pt (κ:=fun r t=>κ ⟨t,r,[]⟩) I.ho.b f (O.endUp (zaa Try.func96) rfl rfl (O.endMore I.qq I.LL)) (fun r t hr=>?_) _ _ _ _ I.C;clear hr;intro y2 qk w2 m2 C2;rw[Frame.finish_at];walk_nrm;obtain⟨⟨oB1,eB1⟩,⟨oK1,eK1⟩,C2',nK⟩:=C2.two I.oB I.oK I.eB I.eK I.LL I.hA;generalize qw:κ ⟨t,r,[]⟩ m2=mc;replace qw:=yay qw;refine zbg (O.xc ..) 5 7 (by decide) (by decide) (zai (by kernel_rfl)) (C2.st O) fun wp hp=>?_;simp only[yaf,yag,yad,yae];obtain⟨k0,k1,z0,z1⟩:=C2.kf O hp oK1 eK1;replace hp:=yay hp;replace eK1:=yay eK1
 go_wp2_with fail
 refine⟨⟨rfl,rfl⟩,(w2.setCell ⟨N+2,1,none⟩ (.int .i64 r)).setCell ⟨N+2,0,none⟩ (.bool t),rfl,zba (zba (C2.st O).okd _ _) _ _,zao (zao hp.out _ _) _ _,?_⟩;clear hp k0 k1 z0 z1 wp;obtain rfl:=qw.out;rw[zc5 _ rfl];exact zsd O C2' nK I.hA oB1 eB1 ⟨t,r,[]⟩ rfl oK1 eK1.out rfl rfl (I.qu _)
theorem z0g(O:md.Ok)(Pt:Part md LW (WAt wb) wb TW)(f:Nat)(I:zq8 md wb fb bb lo A w₀ c cs κ o y qm w1 m N x) :
  md.GO y qm w1 (zbt LW (leT o.b) (fun r t=>κ ⟨t,r,[]⟩) f m) (G ((base 96).at (A96 x) (.code (cA (zcn 6)) :: .inBlock 0 :: .code zex::[])) (c::cs)) w1:=by
 generalize qw:zbt LW (leT o.b) (fun r t=>κ ⟨t,r,[]⟩) f m=mc;replace qw:=yay qw;rw[show cA (zcn 6)=Code.region _ _ _ from rfl]
 unfold A96;simp only[I.x1,I.x7,I.x8,I.x9,I.x10,I.x11,I.x12];unfold gpv;refine za5 (O.xc ..) 4 (by decide) (by decide) (zai (by kernel_rfl)) (I.C.st O) fun wp hp=>?_;simp only[yad,yae];obtain⟨f1,f2,f3⟩:=zf8 hp I.eN;replace hp:=yay hp
 go_wp2_with fail
 refine zae hp.out (I.C.st O).okd ?_;clear hp f1 f2 f3 wp;refine zap (O.xc ..) rfl rfl (by decide) rfl Try.func58 (by kernel_rfl) (by kernel_rfl) ?_;walk_nrm;obtain rfl:=qw.out;clear qw;refine zm4 O Pt (κ:=fun r t=>κ ⟨t,r,[]⟩) I.ho.b f (O.endUp (zaa Try.func96) rfl rfl (O.endMore I.qq I.LL)) (fun r t hr=>?_) _ _ _ _ I.C;clear hr;intro y2 qk w2 m2 C2;rw[Frame.finish_at];walk_nrm;obtain⟨⟨oB1,eB1⟩,⟨oK1,eK1⟩,C2',nK⟩:=C2.two I.oB I.oK I.eB I.eK I.LL I.hA;generalize qw:κ ⟨t,r,[]⟩ m2=mc;replace qw:=yay qw;refine zbg (O.xc ..) 5 7 (by decide) (by decide) (zai (by kernel_rfl)) (C2.st O) fun wp hp=>?_;simp only[yaf,yag,yad,yae];obtain⟨k0,k1,z0,z1⟩:=C2.kf O hp oK1 eK1;replace hp:=yay hp;replace eK1:=yay eK1
 go_wp2_with fail
 refine⟨⟨rfl,rfl⟩,(w2.setCell ⟨N+2,1,none⟩ (.int .i64 r)).setCell ⟨N+2,0,none⟩ (.bool t),rfl,zba (zba (C2.st O).okd _ _) _ _,zao (zao hp.out _ _) _ _,?_⟩;clear hp k0 k1 z0 z1 wp;obtain rfl:=qw.out;rw[zc5 _ rfl];exact zsd O C2' nK I.hA oB1 eB1 ⟨t,r,[]⟩ rfl oK1 eK1.out rfl rfl (I.qu _)
theorem z3t(O:md.Ok)(Pt:Part md LW (WAt wb) wb TW)(f:Nat)(I:zq8 md wb fb bb lo A w₀ c cs κ o y qm w1 m N x) :
  md.GO y qm w1 (zbt LW (buT o.b o.c) (fun r t=>κ ⟨t,r,[]⟩) f m) (G ((base 96).at (A96 x) (.code (cA (zcn 7)) :: .inBlock 0 :: .code zex::[])) (c::cs)) w1:=by
 generalize qw:zbt LW (buT o.b o.c) (fun r t=>κ ⟨t,r,[]⟩) f m=mc;replace qw:=yay qw;rw[show cA (zcn 7)=Code.region _ _ _ from rfl]
 unfold A96;simp only[I.x1,I.x7,I.x8,I.x9,I.x10,I.x11,I.x12];unfold gpv;refine za5 (O.xc ..) 6 (by decide) (by decide) (zai (by kernel_rfl)) (I.C.st O) fun wp hp=>?_;simp only[yad,yae];obtain⟨f1,f2,f3⟩:=zf8 hp I.eN;replace hp:=yay hp
 go_wp2_with fail
 refine zae hp.out (I.C.st O).okd ?_;clear hp f1 f2 f3 wp;refine zap (O.xc ..) rfl rfl (by decide) rfl Try.func59 (by kernel_rfl) (by kernel_rfl) ?_;walk_nrm;obtain rfl:=qw.out;clear qw;refine ztt O Pt (κ:=fun r t=>κ ⟨t,r,[]⟩) I.ho.b f (O.endUp (zaa Try.func96) rfl rfl (O.endMore I.qq I.LL)) (fun r t hr=>?_) _ _ _ _ I.C;clear hr;intro y2 qk w2 m2 C2;rw[Frame.finish_at];walk_nrm;obtain⟨⟨oB1,eB1⟩,⟨oK1,eK1⟩,C2',nK⟩:=C2.two I.oB I.oK I.eB I.eK I.LL I.hA;generalize qw:κ ⟨t,r,[]⟩ m2=mc;replace qw:=yay qw;refine zbg (O.xc ..) 7 7 (by decide) (by decide) (zai (by kernel_rfl)) (C2.st O) fun wp hp=>?_;simp only[yaf,yag,yad,yae];obtain⟨k0,k1,z0,z1⟩:=C2.kf O hp oK1 eK1;replace hp:=yay hp;replace eK1:=yay eK1
 go_wp2_with fail
 refine⟨⟨rfl,rfl⟩,(w2.setCell ⟨N+2,1,none⟩ (.int .i64 r)).setCell ⟨N+2,0,none⟩ (.bool t),rfl,zba (zba (C2.st O).okd _ _) _ _,zao (zao hp.out _ _) _ _,?_⟩;clear hp k0 k1 z0 z1 wp;obtain rfl:=qw.out;rw[zc5 _ rfl];exact zsd O C2' nK I.hA oB1 eB1 ⟨t,r,[]⟩ rfl oK1 eK1.out rfl rfl (I.qu _)
theorem z0h(O:md.Ok)(Pt:Part md LF (FAt fb) fb TF)(I:zq8 md wb fb bb lo A w₀ c cs κ o y qm w1 m N x) :
  md.GO y qm w1 (zi5 LF (fun t=>κ ⟨t,0,[]⟩) m) (G ((base 96).at (A96 x) (.code (cA (zcn 8)) :: .inBlock 0 :: .code zex::[])) (c::cs)) w1:=by
 generalize qw:zi5 LF (fun t=>κ ⟨t,0,[]⟩) m=mc;replace qw:=yay qw;rw[show cA (zcn 8)=Code.region _ _ _ from rfl]
 unfold A96;simp only[I.x1,I.x7,I.x8,I.x9,I.x10,I.x11,I.x12];unfold gpv;refine za5 (O.xc ..) 2 (by decide) (by decide) (zai (by kernel_rfl)) (I.C.st O) fun wp hp=>?_;simp only[yad,yae];replace hp:=yay hp
 go_wp2_with fail
 refine zae hp.out (I.C.st O).okd ?_;clear hp  wp;refine zap (O.xc ..) rfl rfl (by decide) rfl Try.func50 (by kernel_rfl) (by kernel_rfl) ?_;walk_nrm;obtain rfl:=qw.out;clear qw;refine zqk O Pt (κ:=fun t=>κ ⟨t,0,[]⟩) (O.endUp (zaa Try.func96) rfl rfl (O.endMore I.qq I.LL)) (fun t=>?_) _ _ _ _ I.C;intro y2 qk w2 m2 C2;rw[Frame.finish_at];walk_nrm;obtain⟨⟨oB1,eB1⟩,⟨oK1,eK1⟩,C2',nK⟩:=C2.two I.oB I.oK I.eB I.eK I.LL I.hA;generalize qw:κ ⟨t,0,[]⟩ m2=mc;replace qw:=yay qw;refine zbg (O.xc ..) 3 2 (by decide) (by decide) (zai (by kernel_rfl)) (C2.st O) fun wp hp=>?_;simp only[yaf,yag,yad,yae];obtain⟨k0,k1,z0,z1⟩:=C2.kf O hp oK1 eK1;replace hp:=yay hp;replace eK1:=yay eK1
 go_wp2_with fail
 refine⟨⟨rfl,rfl⟩,w2.setCell ⟨N+2,0,none⟩ (.bool t),rfl,zba (C2.st O).okd _ _,zao hp.out _ _,?_⟩;clear hp k0 k1 z0 z1 wp;obtain rfl:=qw.out;rw[zc5 _ rfl];exact zop O C2' nK I.hA oB1 eB1 ⟨t,0,[]⟩ rfl oK1 eK1.out rfl rfl (I.qu _)
theorem z3s(O:md.Ok)(Pt:Part md LF (FAt fb) fb TF)(I:zq8 md wb fb bb lo A w₀ c cs κ o y qm w1 m N x) :
  md.GO y qm w1 (zoj LF (fun t=>κ ⟨t,0,[]⟩) m) (G ((base 96).at (A96 x) (.code (cA (zcn 9)) :: .inBlock 0 :: .code zex::[])) (c::cs)) w1:=by
 generalize qw:zoj LF (fun t=>κ ⟨t,0,[]⟩) m=mc;replace qw:=yay qw;rw[show cA (zcn 9)=Code.region _ _ _ from rfl]
 unfold A96;simp only[I.x1,I.x7,I.x8,I.x9,I.x10,I.x11,I.x12];unfold gpv;refine za5 (O.xc ..) 2 (by decide) (by decide) (zai (by kernel_rfl)) (I.C.st O) fun wp hp=>?_;simp only[yad,yae];replace hp:=yay hp
 go_wp2_with fail
 refine zae hp.out (I.C.st O).okd ?_;clear hp  wp;refine zap (O.xc ..) rfl rfl (by decide) rfl Try.func51 (by kernel_rfl) (by kernel_rfl) ?_;walk_nrm;obtain rfl:=qw.out;clear qw;refine ztd O Pt (κ:=fun t=>κ ⟨t,0,[]⟩) (O.endUp (zaa Try.func96) rfl rfl (O.endMore I.qq I.LL)) (fun t=>?_) _ _ _ _ I.C;intro y2 qk w2 m2 C2;rw[Frame.finish_at];walk_nrm;obtain⟨⟨oB1,eB1⟩,⟨oK1,eK1⟩,C2',nK⟩:=C2.two I.oB I.oK I.eB I.eK I.LL I.hA;generalize qw:κ ⟨t,0,[]⟩ m2=mc;replace qw:=yay qw;refine zbg (O.xc ..) 3 2 (by decide) (by decide) (zai (by kernel_rfl)) (C2.st O) fun wp hp=>?_;simp only[yaf,yag,yad,yae];obtain⟨k0,k1,z0,z1⟩:=C2.kf O hp oK1 eK1;replace hp:=yay hp;replace eK1:=yay eK1
 go_wp2_with fail
 refine⟨⟨rfl,rfl⟩,w2.setCell ⟨N+2,0,none⟩ (.bool t),rfl,zba (C2.st O).okd _ _,zao hp.out _ _,?_⟩;clear hp k0 k1 z0 z1 wp;obtain rfl:=qw.out;rw[zc5 _ rfl];exact zop O C2' nK I.hA oB1 eB1 ⟨t,0,[]⟩ rfl oK1 eK1.out rfl rfl (I.qu _)
theorem zxp(O:md.Ok)(Pt:Part md LF (FAt fb) fb TF)(I:zq8 md wb fb bb lo A w₀ c cs κ o y qm w1 m N x) :
  md.GO y qm w1 (zfz LF (fun t=>κ ⟨t,0,[]⟩) m) (G ((base 96).at (A96 x) (.code (cA (zcn 10)) :: .inBlock 0 :: .code zex::[])) (c::cs)) w1:=by
 generalize qw:zfz LF (fun t=>κ ⟨t,0,[]⟩) m=mc;replace qw:=yay qw;rw[show cA (zcn 10)=Code.region _ _ _ from rfl]
 unfold A96;simp only[I.x1,I.x7,I.x8,I.x9,I.x10,I.x11,I.x12];unfold gpv;refine za5 (O.xc ..) 2 (by decide) (by decide) (zai (by kernel_rfl)) (I.C.st O) fun wp hp=>?_;simp only[yad,yae];replace hp:=yay hp
 go_wp2_with fail
 refine zae hp.out (I.C.st O).okd ?_;clear hp  wp;refine zap (O.xc ..) rfl rfl (by decide) rfl Try.func52 (by kernel_rfl) (by kernel_rfl) ?_;walk_nrm;obtain rfl:=qw.out;clear qw;refine zne O Pt (κ:=fun t=>κ ⟨t,0,[]⟩) (O.endUp (zaa Try.func96) rfl rfl (O.endMore I.qq I.LL)) (fun t=>?_) _ _ _ _ I.C;intro y2 qk w2 m2 C2;rw[Frame.finish_at];walk_nrm;obtain⟨⟨oB1,eB1⟩,⟨oK1,eK1⟩,C2',nK⟩:=C2.two I.oB I.oK I.eB I.eK I.LL I.hA;generalize qw:κ ⟨t,0,[]⟩ m2=mc;replace qw:=yay qw;refine zbg (O.xc ..) 3 2 (by decide) (by decide) (zai (by kernel_rfl)) (C2.st O) fun wp hp=>?_;simp only[yaf,yag,yad,yae];obtain⟨k0,k1,z0,z1⟩:=C2.kf O hp oK1 eK1;replace hp:=yay hp;replace eK1:=yay eK1
 go_wp2_with fail
 refine⟨⟨rfl,rfl⟩,w2.setCell ⟨N+2,0,none⟩ (.bool t),rfl,zba (C2.st O).okd _ _,zao hp.out _ _,?_⟩;clear hp k0 k1 z0 z1 wp;obtain rfl:=qw.out;rw[zc5 _ rfl];exact zop O C2' nK I.hA oB1 eB1 ⟨t,0,[]⟩ rfl oK1 eK1.out rfl rfl (I.qu _)
theorem zxo(O:md.Ok)(Pt:Part md LB (BAt ib bb) bb TS2)(hib:ib<65536)(I:zq8 md wb fb bb lo A w₀ c cs κ o y qm w1 m N x) :
  md.GO y qm w1 (zfp LB o.b (κ ⟨true,0,[]⟩) m) (G ((base 96).at (A96 x) (.code (cA (zcn 12)) :: .inBlock 0 :: .code zex::[])) (c::cs)) w1:=by
 generalize qw:zfp LB o.b (κ ⟨true,0,[]⟩) m=mc;replace qw:=yay qw;rw[show cA (zcn 12)=Code.region _ _ _ from rfl]
 unfold A96;simp only[I.x1,I.x7,I.x8,I.x9,I.x10,I.x11,I.x12];unfold gpv;refine za5 (O.xc ..) 4 (by decide) (by decide) (zai (by kernel_rfl)) (I.C.st O) fun wp hp=>?_;simp only[yad,yae];obtain⟨f1,f2,f3⟩:=zf8 hp I.eN;replace hp:=yay hp
 go_wp2_with fail
 refine zae hp.out (I.C.st O).okd ?_;clear hp f1 f2 f3 wp;refine zap (O.xc ..) rfl rfl (by decide) rfl Try.func103 (by kernel_rfl) (by kernel_rfl) ?_;walk_nrm;obtain rfl:=qw.out;clear qw;refine zmn O Pt hib (κ:=κ ⟨true,0,[]⟩) I.ho.b (O.endUp (zaa Try.func96) rfl rfl (O.endMore I.qq I.LL)) (?_) _ _ _ _ I.C;intro y2 qk w2 m2 C2;rw[Frame.finish_at];walk_nrm;obtain⟨⟨oB1,eB1⟩,⟨oK1,eK1⟩,C2',nK⟩:=C2.two I.oB I.oK I.eB I.eK I.LL I.hA;generalize qw:κ ⟨true,0,[]⟩ m2=mc;replace qw:=yay qw;refine zad (O.xc ..) ?_;refine za6 (O.xc ..) ?_;rw[zc5 _ rfl];obtain rfl:=qw.out;exact zkf O C2' .refl I.hA oB1 eB1 rfl ⟨true,0,[]⟩ rfl oK1 eK1 rfl rfl (I.qu ⟨true,0,[]⟩)
theorem z0c(O:md.Ok)(Pt:Part md LB (BAt ib bb) bb TS2)(hib:ib<65536)(I:zq8 md wb fb bb lo A w₀ c cs κ o y qm w1 m N x) :
  md.GO y qm w1 (zic LB o.b (fun r=>κ ⟨true,r,[]⟩) m) (G ((base 96).at (A96 x) (.code (cA (zcn 13)) :: .inBlock 0 :: .code zex::[])) (c::cs)) w1:=by
 generalize qw:zic LB o.b (fun r=>κ ⟨true,r,[]⟩) m=mc;replace qw:=yay qw;rw[show cA (zcn 13)=Code.region _ _ _ from rfl]
 unfold A96;simp only[I.x1,I.x7,I.x8,I.x9,I.x10,I.x11,I.x12];unfold gpv;refine za5 (O.xc ..) 4 (by decide) (by decide) (zai (by kernel_rfl)) (I.C.st O) fun wp hp=>?_;simp only[yad,yae];obtain⟨f1,f2,f3⟩:=zf8 hp I.eN;replace hp:=yay hp
 go_wp2_with fail
 refine zae hp.out (I.C.st O).okd ?_;clear hp f1 f2 f3 wp;refine zap (O.xc ..) rfl rfl (by decide) rfl Try.func53 (by kernel_rfl) (by kernel_rfl) ?_;walk_nrm;obtain rfl:=qw.out;clear qw;refine zo9 O Pt hib (κ:=fun r=>κ ⟨true,r,[]⟩) I.ho.b (O.endUp (zaa Try.func96) rfl rfl (O.endMore I.qq I.LL)) (fun r hr=>?_) _ _ _ _ I.C;clear hr;intro y2 qk w2 m2 C2;rw[Frame.finish_at];walk_nrm;obtain⟨⟨oB1,eB1⟩,⟨oK1,eK1⟩,C2',nK⟩:=C2.two I.oB I.oK I.eB I.eK I.LL I.hA;generalize qw:κ ⟨true,r,[]⟩ m2=mc;replace qw:=yay qw;refine zbg (O.xc ..) 5 2 (by decide) (by decide) (zai (by kernel_rfl)) (C2.st O) fun wp hp=>?_;simp only[yaf,yag,yad,yae];obtain⟨k0,k1,z0,z1⟩:=C2.kf O hp oK1 eK1;replace hp:=yay hp;replace eK1:=yay eK1
 go_wp2_with fail
 refine⟨⟨rfl,rfl⟩,w2.setCell ⟨N+2,1,none⟩ (.int .i64 r),rfl,zba (C2.st O).okd _ _,zao hp.out _ _,?_⟩;clear hp k0 k1 z0 z1 wp;obtain rfl:=qw.out;rw[zc5 _ rfl];exact zoo O C2' nK I.hA oB1 eB1 ⟨true,r,[]⟩ rfl oK1 eK1.out rfl rfl (I.qu _)
end
section
variable{S:Type}{md:Md (SM S)}{LB:zco S BoxS}{ib wb fb bb lo:Nat}{A A1:Nat→Prop}{w₀ w₁:W0 (SM S)}{c:Frame}{cs:List Frame}{κ:Ans→Fu (SM S)}{o:OpD}{y:md.β}{ql qm own:Nat→Owner}{w0 w1 w:World}{m:SM S}{N K3:Nat}{x:Nat→Value}{R:List Item}{tv:Nat→Option Value}{bs bd:Nat}{qz:Array Bool}
structure J96(md:Md (SM S))(tv:Nat→Option Value)(bs bb N K3:Nat)(y:md.β)(ql:Nat→Owner)(w0:World)(A:Nat→Prop)(w₀:W0 (SM S))(m:SM S)(qz:Array Bool)(x:Nat→Value)(own:Nat→Owner)(w:World):Prop where
 x1:x 1=md.sv
 x7:x 7 = .pointer (some ⟨N,0,none⟩)
 x8:x 8 = .pointer (some ⟨N+1,0,none⟩)
 x11:x 11=gpv bb
 x12:x 12 = .pointer (some ⟨N+2,0,none⟩)
 x13:x 13=gpv K3
 tab:Tab tv bs qz x
 C:md.C y own A w₀ w m
 hO:OwnStep md.i ql own w0.heap.size
 hF:Frm md.i ql w0 w
theorem J96.put(h:J96 md tv bs bb N K3 y ql w0 A w₀ m qz x own w)(hb:14≤bs){i:Nat}{u:Value}(ht:tv i=some u):J96 md tv bs bb N K3 y ql w0 A w₀ m (qz.setIfInBounds i true) (upd x (bs+i) u) own w :=
 ⟨by rw[upd_ne _ _ (by omega)];exact h.x1,by rw[upd_ne _ _ (by omega)];exact h.x7,by rw[upd_ne _ _ (by omega)];exact h.x8,by rw[upd_ne _ _ (by omega)];exact h.x11,by rw[upd_ne _ _ (by omega)];exact h.x12,by rw[upd_ne _ _ (by omega)];exact h.x13,h.tab.put (.inl ht),h.C,h.hO,h.hF⟩
theorem J96.grow(h:J96 md tv bs bb N K3 y ql w0 A w₀ m qz x own w){own':Nat→Owner}{w':World}(C:md.C y own' A w₀ w' m)(hO:OwnStep md.i own own' w.heap.size)(hF:Frm md.i own w w'):J96 md tv bs bb N K3 y ql w0 A w₀ m qz x own' w' :=
 ⟨h.x1,h.x7,h.x8,h.x11,h.x12,h.x13,h.tab,C,h.hO.trans hO h.hF.1,.trans h.hO h.hF hF⟩
def tv37(bb N:Nat)(sv:Value)(p:Option Addr)(v ob:Int):Nat→Option Value
 | 0=>some (gpv bb)
 | 1=>some sv
 | 2=>some (.agg #[.pointer p,gpv bb])
 | 3=>some (.agg #[.pointer p,gpv bb])
 | 4=>some (.int .i64 v)
 | 5=>some (.pointer (some ⟨N,2,none⟩))
 | 6=>some (.int .i64 ob)
 | 7=>some (.int .i64 (zbk v ob))
 | _=>none
def tv39(bb N:Nat)(p:Option Addr)(v ob:Int):Nat→Option Value
 | 0=>some (.agg #[.pointer p,gpv bb])
 | 1=>some (.int .i64 v)
 | 2=>some (.pointer (some ⟨N,2,none⟩))
 | 3=>some (.int .i64 ob)
 | 4=>some (.int .i64 (zbk v ob))
 | _=>none
theorem z0e(O:md.Ok)(Pt:Part md LB (BAt ib bb) bb TS2)(I:zq8 md wb fb bb lo A w₀ c cs κ o y qm w1 m N x) :
  md.GO y qm w1 (xloadF LB (fun _ v=>κ ⟨true,v,[]⟩) m) (G ((base 96).at (A96 x) (.code (cA (zcn 11)) :: .inBlock 0 :: .code zex::[])) (c::cs)) w1:=by
 obtain⟨ho,qq,qu,C1,LL,hA,oN,eN,oB,eB,oK,eK,x1,x7,x8,x9,x10,x11,x12⟩:=I;generalize qw:xloadF LB (fun _ v=>κ ⟨true,v,[]⟩) m=mc;replace qw:=yay qw;replace qu:=yay qu;replace eB:=yay eB;replace eK:=yay eK;replace hA:=yay hA;rw[show cA (zcn 11)=Code.region _ _ _ from rfl]
 unfold A96;simp only[x1,x7,x8,x9,x10,x11,x12];unfold gpv;refine za5 (O.xc ..) 2 (by decide) (by decide) (zai (by kernel_rfl)) (C1.st O) fun wp hp=>?_;simp only[yad,yae];replace hp:=yay hp
 go_wp2_with fail
 refine zae hp.out (C1.st O).okd ?_;clear hp  wp;refine zap (O.xc ..) rfl rfl (by decide) rfl Try.func54 (by kernel_rfl) (by kernel_rfl) ?_;walk_nrm;obtain rfl:=qw.out;clear qw;refine xload_cps O Pt (κ:=fun _ v=>κ ⟨true,v,[]⟩) (O.endUp (zaa Try.func96) rfl rfl (O.endMore qq LL)) (fun s v p A₁ w₁ L1 hH=>?_) _ _ _ _ C1;intro y2 qk w2 m2 C2;rw[Frame.finish_at];walk_nrm;have CA:=C2.less L1;obtain⟨oB1,qB⟩:=CA.mine (N+1) oB;obtain⟨oK1,qK⟩:=CA.mine (N+2) oK;have eB1:=qB.trans eB.out;have eK1:=qK.trans eK.out;clear qB qK;have C2':=CA.less LL;have nK:¬A (N+2):=fun h=>by have:=hA.out _ h;omega
 generalize qw:κ ⟨true,v,[]⟩ m2=mc;replace qw:=yay qw;have hBlt:N+1<w2.heap.size:=C2.lt (by rw[oB1];simp);have hKlt:N+2<w2.heap.size:=C2.lt (by rw[oK1];simp);have hH2:HeldC qk w2.heap ib s v p:=hH.keep fun b t _ q=>C2.tg b t q;unfold gpv;refine O.callA C2' zbc (f:=55) (by simp) rfl rfl (by decide) rfl Try.func55 (by kernel_rfl) (by kernel_rfl) fun wp hp=>?_;walk_nrm;refine(heldI_walk wp (hH2.kept (w:=wp) fun b ⟨t,hb⟩=>za8 hp (C2.dm O (by rw[hb];simp))) ⟨_,rfl⟩).mono ?_;rintro e' w' ⟨rfl,rfl⟩;refine⟨_,rfl,fun w4 q1 q2 q3=>O.one C2' hp rfl rfl q1 q2 (q3.trans (by simp;rw[hp.heap,zaw])) fun own4 C4 e4 s4 o4 L4 low4=>?_⟩;have oB2:=(low4 (N+1) hBlt).2.trans oB1;have eB2:=(low4 (N+1) hBlt).1.trans eB1;have oK2:=(low4 (N+2) hKlt).2.trans oK1;have eK2:=(low4 (N+2) hKlt).1.trans eK1;clear q1 q2 q3 low4 e4 s4 o4 hp wp hBlt hKlt oB1 eB1 oK1 eK1;have C4':=C4.less L4;refine zbg (O.xc ..) 4 2 (by decide) (by decide) (zai (by kernel_rfl)) (C4.st O) fun wp hp=>?_;simp only[yaf,yag,yad,yae];obtain⟨k0,k1,z0,z1⟩:=C4.kf O hp oK2 eK2;replace hp:=yay hp;replace eK2:=yay eK2
 go_wp2_with fail
 refine⟨⟨rfl,rfl⟩,w4.setCell ⟨N+2,1,none⟩ (.int .i64 v),rfl,zba (C4.st O).okd _ _,zao hp.out _ _,?_⟩;clear hp k0 k1 z0 z1 wp;refine zad (O.xc ..) ?_;refine za6 (O.xc ..) ?_;obtain⟨C5,F5⟩:=C4'.wrote (w1:=w4.setCell ⟨N+2,1,none⟩ (.int .i64 v)) O oK2 nK (by simp[World.setCell]) (fun b hb=>Below.heap_setCell _ _ _ _ hb);refine O.rebase .refl F5 ?_;obtain rfl:=qw.out;rw[zc5 _ rfl];exact zkf O C5 .refl hA.out oB2 ((Below.heap_setCell _ _ _ _ (show N+1≠N+2 by omega)).trans eB2) rfl ⟨true,v,[]⟩ rfl oK2 (zal eK2.out 1 (.int .i64 v)) rfl rfl (qu.out ⟨true,v,[]⟩)
theorem z6x(O:md.Ok)(Pt:Part md LB (BAt ib bb) bb TS2)(hib:ib<65536){s:Nat}{v:Int}{p:Option Addr}{κb:Bool→Fu (SM S)}(hH:HeldC w₁.own w₁.heap ib s v p)(qq:md.End A1 w₁ c cs)
  (C:md.C y ql A1 w₁ w0 m) (hAN:A1 N) (hAK:A1 (N+2)) (hAH:A1 K3) (eNb:w₁.heap[N]?=some (.cells #[.int .i64 o.kind,.int .i64 o.a,.int .i64 o.b,.int .i64 o.c] 45 (0,0))) (eHb:w₁.heap[K3]?=some (.cells #[.pointer p,gpv bb] 119 (0,0))) (eKb:w₁.heap[N+2]?=some (.cells #[.bool true,.int .i64 0,.slice none 0 0] 42 (0,0)))
  (x1:x 1=md.sv) (x7:x 7 = .pointer (some ⟨N,0,none⟩)) (x8:x 8 = .pointer (some ⟨N+1,0,none⟩)) (x11:x 11=gpv bb) (x12:x 12 = .pointer (some ⟨N+2,0,none⟩)) (x13:x 13=gpv K3)
  (qu:∀t x y own w m,md.C y own (fun b=>A1 b∧b≠N+2) w₁ w m→own (N+2) = .th md.i→w.heap[N+2]?=some (.cells #[.bool t,.int .i64 0,.slice none 0 0] 42 (0,0))→x 1=md.sv→x 7 = .pointer (some ⟨N,0,none⟩)→x 8 = .pointer (some ⟨N+1,0,none⟩)→x 11=gpv bb→x 12 = .pointer (some ⟨N+2,0,none⟩)→x 13=gpv K3 →
   md.GO y own w (κb t m) (G ((base 96).at (A96 x) (.code (cB (cB (cA (zcn 14))))::R)) (c::cs)) w) :
  md.GO y ql w0 (stepF (xcasP LB s (zbk v o.b) κb) m) (G ((base 96).at (A96 x) (.code (cB (cA (zcn 14)))::R)) (c::cs)) w0:=by
 generalize qw:stepF (xcasP LB s (zbk v o.b) κb) m=mc;replace qw:=yay qw;refine zas (c:=cB (cA (zcn 14))) (O.xc ..) rfl fun R0 qv=>?_;rw[show cA (cB (cA (zcn 14)))=Code.region _ _ _ from rfl]
 refine zht (O.xc ..) 8 [[8,9,10]] rfl (by kernel_rfl) (C.st O) (fun qz a w=>∃x own,a=A96 x∧J96 md (tv37 bb N md.sv p v o.b) 178 bb N K3 y ql w0 A1 w₁ m qz x own w) ?i0 ?ie ?ist
 case i0=>exact⟨x,ql,rfl,x1,x7,x8,x11,x12,x13,.zero,C,.refl,.refl⟩
 case ie =>
  rintro a w3 ⟨x,own3,rfl,hI⟩ r hr;obtain rfl:r=[8,9,10]:=by simpa using hr
  have t0:x 178=gpv bb:=hI.tab 0 _ rfl rfl;have t1:x 179=md.sv:=hI.tab 1 _ rfl rfl;have t2:x 180 = .agg #[.pointer p,gpv bb]:=hI.tab 2 _ rfl rfl;have t7:x 185 = .int .i64 (zbk v o.b):=hI.tab 7 _ rfl rfl;have y1:=hI.x1;have y7:=hI.x7;have y8:=hI.x8;have y11:=hI.x11;have y12:=hI.x12;have y13:=hI.x13;refine O.rebase hI.hO hI.hF ?_;unfold A96;simp only[y1,y7,y8,y11,y12,y13,t0,t1,t2,t7];refine zap (O.xc ..) rfl rfl (by decide) rfl Try.func56 (by kernel_rfl) (by kernel_rfl) ?_;walk_nrm;obtain rfl:=qw.out;refine xcas_cps O Pt hib (zhx _ _) hH (O.endUp (zaa Try.func96) rfl rfl qq) (fun t=>?_) y own3 w3 m hI.C;intro y4 own4 w4 m4 C4;rw[Frame.finish_at];walk_nrm;generalize hmc4:κb t m4=mc4;replace hmc4:=yay hmc4;obtain⟨oK1,qK⟩:=C4.mine (N+2) hAK;have eK1:=qK.trans eKb;refine zjg (O.xc ..) (rest:=[]) (by decide) [9,10] [_,_] _ _ rfl (zai (by kernel_rfl)) (C4.st O) rfl fun wp hp=>?_;obtain⟨k0,k1,z0,z1⟩:=C4.kf O hp oK1 eK1;replace hp:=yay hp;replace eK1:=yay eK1;unfold gpv
  go_wp2_with fail
  refine⟨⟨rfl,rfl⟩,w4.setCell ⟨N+2,0,none⟩ (.bool t),rfl,zba (C4.st O).okd _ _,zao hp.out _ _,?_⟩;clear hp k0 k1 z0 z1 wp;refine zad (O.xc ..) ?_;have C4':=C4.less (zs9 (A:=fun b=>A1 b∧b≠N+2) fun b hb=>hb.1);obtain⟨C5,F5⟩:=C4'.wrote (w1:=w4.setCell ⟨N+2,0,none⟩ (.bool t)) O oK1 (fun z=>z.2 rfl) (by simp[World.setCell]) (fun b hb=>Below.heap_setCell _ _ _ _ hb);refine O.rebase .refl F5 ?_;obtain rfl:=hmc4.out;obtain rfl:=qv.out;rw[zc5 _ rfl];exact qu t _ _ _ _ m4 C5 oK1 (zal eK1.out 0 (.bool t)) rfl rfl rfl rfl rfl rfl
 case ist =>
  rintro qz i qp hi a w3 r ⟨x,own3,rfl,hI⟩ qy;obtain⟨hun,op,ho,qx⟩:=mem_ready.1 hi;have C3:=hI.C;have eN:=(C3.mine N hAN).2.trans eNb;have eH:=(C3.mine K3 hAH).2.trans eHb;have hcase:i=0∨i=1∨i=2∨i=3∨i=4∨i=5∨i=6∨i=7:=by omega
  rcases hcase with rfl|rfl|rfl|rfl|rfl|rfl|rfl|rfl
  ·have y11:=hI.x11
   try unfold gpv at y11
   refine O.op1 C3 rfl rfl (by decide) (zai (l:=[_]) (by kernel_rfl) _ (yaj.2 rfl)) (v:=gpv bb) (fun wp hp=>by
    unfold A96
    try unfold gpv
    go_simp<;>rfl) ?_
   exact qy (A96 (upd x 178 (gpv bb))) w3 ⟨_,own3,rfl,hI.put (by decide) (i:=0) rfl⟩
  ·have y1:=hI.x1
   try unfold gpv at y1
   refine O.op1 C3 rfl rfl (by decide) (zai (l:=[_]) (by kernel_rfl) _ (yaj.2 rfl)) (v:=md.sv) (fun wp hp=>by
    unfold A96
    try unfold gpv
    go_simp<;>rfl) ?_
   exact qy (A96 (upd x 179 (md.sv))) w3 ⟨_,own3,rfl,hI.put (by decide) (i:=1) rfl⟩
  ·have y13:=hI.x13
   try unfold gpv at y13
   refine O.op1 C3 rfl rfl (by decide) (zai (l:=[_]) (by kernel_rfl) _ (yaj.2 rfl)) (v := .agg #[.pointer p,gpv bb]) (fun wp hp=>by
    have cK0:=(zav hp ⟨K3,0,none⟩).trans (zab eH 0);have cK1:=(zav hp ⟨K3,1,none⟩).trans (zab eH 1);simp only[yac,yaa,yab] at cK0 cK1;unfold A96
    try unfold gpv
    go_simp<;>rfl) ?_
   exact qy (A96 (upd x 180 (.agg #[.pointer p,gpv bb]))) w3 ⟨_,own3,rfl,hI.put (by decide) (i:=2) rfl⟩
  ·have y13:=hI.x13
   try unfold gpv at y13
   refine O.op1 C3 rfl rfl (by decide) (zai (l:=[_]) (by kernel_rfl) _ (yaj.2 rfl)) (v := .agg #[.pointer p,gpv bb]) (fun wp hp=>by
    have cK0:=(zav hp ⟨K3,0,none⟩).trans (zab eH 0);have cK1:=(zav hp ⟨K3,1,none⟩).trans (zab eH 1);simp only[yac,yaa,yab] at cK0 cK1;unfold A96
    try unfold gpv
    go_simp<;>rfl) ?_
   exact qy (A96 (upd x 181 (.agg #[.pointer p,gpv bb]))) w3 ⟨_,own3,rfl,hI.put (by decide) (i:=3) rfl⟩
  ·have ho':=yaw ho;subst ho';have d3:qz.getD 3 false=true:=qx ⟨3,.data⟩ (by simp) rfl;have t3:x 181=_:=hI.tab 3 _ rfl d3
   try unfold gpv at t3
   refine O.callA C3 zbc (f:=55) (by simp) rfl rfl (by decide) rfl Try.func55 (by kernel_rfl) (by kernel_rfl) fun wp hp=>?_;walk_nrm;show Calls Try.prog 55 #[x 181] wp _;rw[t3];have hHw:HeldC own3 w3.heap ib s v p:=hH.keep fun b t _ q=>C3.tg b t q;refine(heldI_walk wp (hHw.kept (w:=wp) fun b ⟨t,hb⟩=>za8 hp (C3.dm O (by rw[hb];simp))) ⟨_,rfl⟩).mono ?_;rintro e' w' ⟨rfl,rfl⟩;refine⟨_,rfl,fun w4 q1 q2 q3=>?_⟩;have qp:wp.heap.size=w3.heap.size:=by rw[hp.heap,zaw]
   have hs4:w4.heap.size=w3.heap.size+1:=by rw[q3];simp[qp]
   have low4:∀b,b<w3.heap.size→w4.heap[b]?=w3.heap[b]?:=fun b hb=>q2 b (Below.heap_alloc _ _ _ (by omega));obtain⟨own4,C4,h1,h2,h3,h4⟩:=C3.grown (w1:=w4) O (by omega) (fun b hb' _=>low4 b hb');exact qy (A96 (upd x 182 (.int .i64 v))) w4 ⟨_,own4,rfl,(hI.grow (C4.less (zck C3 (fun b hb' _=>low4 b hb') h4)) h1 h2).put (by decide) (i:=4) rfl⟩
  ·have y7:=hI.x7
   try unfold gpv at y7
   refine O.op1 C3 rfl rfl (by decide) (zai (l:=[_]) (by kernel_rfl) _ (yaj.2 rfl)) (v := .pointer (some ⟨N,2,none⟩)) (fun wp hp=>by
    unfold A96
    try unfold gpv
    go_simp<;>rfl) ?_
   exact qy (A96 (upd x 183 (.pointer (some ⟨N,2,none⟩)))) w3 ⟨_,own3,rfl,hI.put (by decide) (i:=5) rfl⟩
  ·have ho':=yaw ho;subst ho';have d5:qz.getD 5 false=true:=qx ⟨5,.data⟩ (by simp) rfl;have t5:x 183=_:=hI.tab 5 _ rfl d5
   try unfold gpv at t5
   refine O.op1 C3 rfl rfl (by decide) (zai (l:=[_]) (by kernel_rfl) _ (yaj.2 rfl)) (v := .int .i64 o.b) (fun wp hp=>by
    have cN:=(zav hp ⟨N,2,none⟩).trans (zab eN 2);simp only[yac,yaa,yab] at cN;unfold A96
    try unfold gpv
    go_simp<;>rfl) ?_
   exact qy (A96 (upd x 184 (.int .i64 o.b))) w3 ⟨_,own3,rfl,hI.put (by decide) (i:=6) rfl⟩
  ·have ho':=yaw ho;subst ho';have d4:qz.getD 4 false=true:=qx ⟨4,.data⟩ (by simp) rfl;have t4:x 182=_:=hI.tab 4 _ rfl d4;have d6:qz.getD 6 false=true:=qx ⟨6,.data⟩ (by simp) rfl;have t6:x 184=_:=hI.tab 6 _ rfl d6
   try unfold gpv at t4 t6
   refine O.op1 C3 rfl rfl (by decide) (zai (l:=[_]) (by kernel_rfl) _ (yaj.2 rfl)) (v := .int .i64 (zbk v o.b)) (fun wp hp=>by
    unfold A96 zbk
    go_simp<;>rfl) ?_
   exact qy (A96 (upd x 185 (.int .i64 (zbk v o.b)))) w3 ⟨_,own3,rfl,hI.put (by decide) (i:=7) rfl⟩
end
section
variable{S:Type}{md:Md (SM S)}{LB:zco S BoxS}{ib wb fb bb lo:Nat}{A A1:Nat→Prop}{w₀ w₁:W0 (SM S)}{c:Frame}{cs:List Frame}{κ:Ans→Fu (SM S)}{o:OpD}{y:md.β}{ql qm own:Nat→Owner}{w0 w1 w:World}{m:SM S}{N K3:Nat}{x:Nat→Value}{R:List Item}{tv:Nat→Option Value}{bs bd:Nat}{qz:Array Bool}
theorem z6w(O:md.Ok){s:Nat}{v:Int}{p:Option Addr}(hH:HeldC w₁.own w₁.heap ib s v p)(LL:Less md.i A w₀ A1 w₁)(hA:∀b,A b→b<N)
  (C:md.C y ql A1 w₁ w0 m) (hAN:A1 N) (hAB:A1 (N+1)) (hAK:A1 (N+2)) (hAH:A1 K3) (eNb:w₁.heap[N]?=some (.cells #[.int .i64 o.kind,.int .i64 o.a,.int .i64 o.b,.int .i64 o.c] 45 (0,0))) (eHb:w₁.heap[K3]?=some (.cells #[.pointer p,gpv bb] 119 (0,0))) {cc:Array Value} (eBb:w₁.heap[N+1]?=some (.cells cc 42 (0,0))) (hcc:cc.size=3) (eKb:w₁.heap[N+2]?=some (.cells #[.bool true,.int .i64 0,.slice none 0 0] 42 (0,0)))
  (x1:x 1=md.sv) (x7:x 7 = .pointer (some ⟨N,0,none⟩)) (x8:x 8 = .pointer (some ⟨N+1,0,none⟩)) (x11:x 11=gpv bb) (x12:x 12 = .pointer (some ⟨N+2,0,none⟩)) (x13:x 13=gpv K3)
  (qu:∀v' y own w m,md.C y own A w₀ w m→LRow (.th md.i) lo own w v' []→(∀g,v'.ownBlock=some g→¬A g)→md.GO y own w (κ ⟨true,zbk v o.b,[]⟩ m) (G (c.finish (zf9 ⟨true,zbk v o.b,[]⟩ v')) cs) w) :
  md.GO y ql w0 (κ ⟨true,zbk v o.b,[]⟩ m) (G ((base 96).at (A96 x) (.code (cA (cB (cB (cB (cA (zcn 14)))))) :: .inBlock 0 :: .code zex::[])) (c::cs)) w0:=by
 generalize qw:κ ⟨true,zbk v o.b,[]⟩ m=mc;replace qw:=yay qw;replace qu:=yay qu;replace hA:=yay hA;rw[show cA (cB (cB (cB (cA (zcn 14)))))=Code.region _ _ _ from rfl]
 refine zht (O.xc ..) 5 [[5,6]] rfl (by kernel_rfl) (C.st O) (fun qz a w=>∃x own,a=A96 x∧J96 md (tv39 bb N p v o.b) 190 bb N K3 y ql w0 A1 w₁ m qz x own w) ?i0 ?ie ?ist
 case i0=>exact⟨x,ql,rfl,x1,x7,x8,x11,x12,x13,.zero,C,.refl,.refl⟩
 case ie =>
  rintro a w3 ⟨x,own3,rfl,hI⟩ r hr;obtain rfl:r=[5,6]:=by simpa using hr
  have t4:x 194 = .int .i64 (zbk v o.b):=hI.tab 4 _ rfl rfl;have y8:=hI.x8;have y12:=hI.x12;have C3:=hI.C;obtain⟨oK1,qK⟩:=C3.mine (N+2) hAK;obtain⟨oB1,qB⟩:=C3.mine (N+1) hAB;have eK1:=qK.trans eKb;have eB1:=qB.trans eBb;have nK:¬A (N+2):=fun h=>by have:=hA.out _ h;omega
  refine O.rebase hI.hO hI.hF ?_;unfold A96;simp only[y8,y12,t4];refine zjg (O.xc ..) (rest:=[]) (by decide) [5,6] [_,_] _ _ rfl (zai (by kernel_rfl)) (C3.st O) rfl fun wp hp=>?_;obtain⟨k0,k1,z0,z1⟩:=C3.kf O hp oK1 eK1;replace hp:=yay hp;replace eK1:=yay eK1;replace eB1:=yay eB1
  go_wp2_with fail
  refine⟨⟨rfl,rfl⟩,w3.setCell ⟨N+2,1,none⟩ (.int .i64 (zbk v o.b)),rfl,zba (C3.st O).okd _ _,zao hp.out _ _,?_⟩;clear hp k0 k1 z0 z1 wp;refine zad (O.xc ..) ?_;refine za6 (O.xc ..) ?_;obtain⟨C5,F5⟩:=(C3.less LL).wrote (w1:=w3.setCell ⟨N+2,1,none⟩ (.int .i64 (zbk v o.b))) O oK1 nK (by simp[World.setCell]) (fun b hb=>Below.heap_setCell _ _ _ _ hb);refine O.rebase .refl F5 ?_;obtain rfl:=qw.out;rw[zc5 _ rfl];exact zkf O C5 .refl hA.out oB1 ((Below.heap_setCell _ _ _ _ (show N+1≠N+2 by omega)).trans eB1.out) hcc ⟨true,zbk v o.b,[]⟩ rfl oK1 (zal eK1.out 1 (.int .i64 (zbk v o.b))) rfl rfl qu.out
 case ist =>
  rintro qz i qp hi a w3 r ⟨x,own3,rfl,hI⟩ qy;obtain⟨hun,op,ho,qx⟩:=mem_ready.1 hi;have C3:=hI.C;have eN:=(C3.mine N hAN).2.trans eNb;have eH:=(C3.mine K3 hAH).2.trans eHb;have hcase:i=0∨i=1∨i=2∨i=3∨i=4:=by omega
  rcases hcase with rfl|rfl|rfl|rfl|rfl
  ·have y13:=hI.x13
   try unfold gpv at y13
   refine O.op1 C3 rfl rfl (by decide) (zai (l:=[_]) (by kernel_rfl) _ (yaj.2 rfl)) (v := .agg #[.pointer p,gpv bb]) (fun wp hp=>by
    have cK0:=(zav hp ⟨K3,0,none⟩).trans (zab eH 0);have cK1:=(zav hp ⟨K3,1,none⟩).trans (zab eH 1);simp only[yac,yaa,yab] at cK0 cK1;unfold A96
    try unfold gpv
    go_simp<;>rfl) ?_
   exact qy (A96 (upd x 190 (.agg #[.pointer p,gpv bb]))) w3 ⟨_,own3,rfl,hI.put (by decide) (i:=0) rfl⟩
  ·have ho':=yaw ho;subst ho';have d0:qz.getD 0 false=true:=qx ⟨0,.data⟩ (by simp) rfl;have t0:x 190=_:=hI.tab 0 _ rfl d0
   try unfold gpv at t0
   refine O.callA C3 zbc (f:=55) (by simp) rfl rfl (by decide) rfl Try.func55 (by kernel_rfl) (by kernel_rfl) fun wp hp=>?_;walk_nrm;show Calls Try.prog 55 #[x 190] wp _;rw[t0];have hHw:HeldC own3 w3.heap ib s v p:=hH.keep fun b t _ q=>C3.tg b t q;refine(heldI_walk wp (hHw.kept (w:=wp) fun b ⟨t,hb⟩=>za8 hp (C3.dm O (by rw[hb];simp))) ⟨_,rfl⟩).mono ?_;rintro e' w' ⟨rfl,rfl⟩;refine⟨_,rfl,fun w4 q1 q2 q3=>?_⟩;have qp:wp.heap.size=w3.heap.size:=by rw[hp.heap,zaw]
   have hs4:w4.heap.size=w3.heap.size+1:=by rw[q3];simp[qp]
   have low4:∀b,b<w3.heap.size→w4.heap[b]?=w3.heap[b]?:=fun b hb=>q2 b (Below.heap_alloc _ _ _ (by omega));obtain⟨own4,C4,h1,h2,h3,h4⟩:=C3.grown (w1:=w4) O (by omega) (fun b hb' _=>low4 b hb');exact qy (A96 (upd x 191 (.int .i64 v))) w4 ⟨_,own4,rfl,(hI.grow (C4.less (zck C3 (fun b hb' _=>low4 b hb') h4)) h1 h2).put (by decide) (i:=1) rfl⟩
  ·have y7:=hI.x7
   try unfold gpv at y7
   refine O.op1 C3 rfl rfl (by decide) (zai (l:=[_]) (by kernel_rfl) _ (yaj.2 rfl)) (v := .pointer (some ⟨N,2,none⟩)) (fun wp hp=>by
    unfold A96
    try unfold gpv
    go_simp<;>rfl) ?_
   exact qy (A96 (upd x 192 (.pointer (some ⟨N,2,none⟩)))) w3 ⟨_,own3,rfl,hI.put (by decide) (i:=2) rfl⟩
  ·have ho':=yaw ho;subst ho';have d2:qz.getD 2 false=true:=qx ⟨2,.data⟩ (by simp) rfl;have t2:x 192=_:=hI.tab 2 _ rfl d2
   try unfold gpv at t2
   refine O.op1 C3 rfl rfl (by decide) (zai (l:=[_]) (by kernel_rfl) _ (yaj.2 rfl)) (v := .int .i64 o.b) (fun wp hp=>by
    have cN:=(zav hp ⟨N,2,none⟩).trans (zab eN 2);simp only[yac,yaa,yab] at cN;unfold A96
    try unfold gpv
    go_simp<;>rfl) ?_
   exact qy (A96 (upd x 193 (.int .i64 o.b))) w3 ⟨_,own3,rfl,hI.put (by decide) (i:=3) rfl⟩
  ·have ho':=yaw ho;subst ho';have d1:qz.getD 1 false=true:=qx ⟨1,.data⟩ (by simp) rfl;have t1:x 191=_:=hI.tab 1 _ rfl d1;have d3:qz.getD 3 false=true:=qx ⟨3,.data⟩ (by simp) rfl;have t3:x 193=_:=hI.tab 3 _ rfl d3
   try unfold gpv at t1 t3
   refine O.op1 C3 rfl rfl (by decide) (zai (l:=[_]) (by kernel_rfl) _ (yaj.2 rfl)) (v := .int .i64 (zbk v o.b)) (fun wp hp=>by
    unfold A96 zbk
    go_simp<;>rfl) ?_
   exact qy (A96 (upd x 194 (.int .i64 (zbk v o.b)))) w3 ⟨_,own3,rfl,hI.put (by decide) (i:=4) rfl⟩
theorem zxq(O:md.Ok)(Pt:Part md LB (BAt ib bb) bb TS2)(hib:ib<65536)(I:zq8 md wb fb bb lo A w₀ c cs κ o y qm w1 m N x) :
  md.GO y qm w1 (xloadF LB (fun s v=>stepF (xcasP LB s (zbk v o.b) (fun t=>κ (if t then⟨true,zbk v o.b,[]⟩ else⟨false,0,[]⟩)))) m) (G ((base 96).at (A96 x) (.code (cA (zcn 14)) :: .inBlock 0 :: .code zex::[])) (c::cs)) w1:=by
 obtain⟨ho,qq,qu,C1,LL,hA,oN,eN,oB,eB,oK,eK,x1,x7,x8,x9,x10,x11,x12⟩:=I;generalize qw:xloadF LB (fun s v=>stepF (xcasP LB s (zbk v o.b) (fun t=>κ (if t then⟨true,zbk v o.b,[]⟩ else⟨false,0,[]⟩)))) m=mc;replace qw:=yay qw;replace qu:=yay qu;replace eB:=yay eB;replace eK:=yay eK;replace hA:=yay hA;refine zas (c:=cA (zcn 14)) (O.xc ..) rfl fun R0 qv=>?_;rw[show cA (cA (zcn 14))=Code.region _ _ _ from rfl]
 unfold A96;simp only[x1,x7,x8,x9,x10,x11,x12];unfold gpv;refine za5 (O.xc ..) 2 (by decide) (by decide) (zai (by kernel_rfl)) (C1.st O) fun wp hp=>?_;simp only[yad,yae];replace hp:=yay hp
 go_wp2_with fail
 refine zae hp.out (C1.st O).okd ?_;clear hp  wp;refine zap (O.xc ..) rfl rfl (by decide) rfl Try.func54 (by kernel_rfl) (by kernel_rfl) ?_;walk_nrm;obtain rfl:=qw.out;clear qw;refine xload_cps O Pt (κ:=fun s v=>stepF (xcasP LB s (zbk v o.b) (fun t=>κ (if t then⟨true,zbk v o.b,[]⟩ else⟨false,0,[]⟩)))) (O.endUp (zaa Try.func96) rfl rfl (O.endMore qq LL)) (fun s v p A₁ w₁ L1 hH=>?_) _ _ _ _ C1;intro y2 qk w2 m2 C2;rw[Frame.finish_at];walk_nrm;have CA:=C2.less L1;obtain⟨oN1,qN⟩:=CA.mine N oN;obtain⟨oB1,qB⟩:=CA.mine (N+1) oB;obtain⟨oK1,qK⟩:=CA.mine (N+2) oK;have eN1:=qN.trans eN;have eB1:=qB.trans eB.out;have eK1:=qK.trans eK.out;clear qB qK qN;have hH2:HeldC qk w2.heap ib s v p:=hH.keep fun b t _ q=>C2.tg b t q;generalize qw:(fun s v=>stepF (xcasP LB s (zbk v o.b) (fun t=>κ (if t then⟨true,zbk v o.b,[]⟩ else⟨false,0,[]⟩)))) s v m2=mc;replace qw:=yay qw;obtain⟨K3,hN⟩:∃N,w2.heap.size=N:=⟨_,rfl⟩;have hOk:=(C2.st O).okd;have hD0:md.D w2.heap.size=none:=C2.dn O (yax _);refine zbg (O.xc ..) 3 2 (by decide) (by decide) (zai (by kernel_rfl)) (C2.st O) fun wp hp=>?_;simp only[yaf,yag,yad,yae];have qp:wp.heap.size=K3:=by rw[hp.heap,zaw];exact hN
 replace qp:=yay qp;replace hp:=yay hp;replace eN1:=yay eN1;replace eB1:=yay eB1;replace eK1:=yay eK1
 try unfold gpv at *
 go_wp2_with fail
 refine⟨⟨rfl,rfl⟩,w2.alloc (.cells #[.pointer p,.pointer (some ⟨bb,0,none⟩)] 119),rfl,zeb hOk _,?_,?_⟩
 ·exact zea hp.out _ hD0
 rw[qp.out];clear hp qp wp;refine zad (O.xc ..) ?_;obtain rfl:=qv.out;clear qv;have e3:(w2.alloc (.cells #[.pointer p,.pointer (some ⟨bb,0,none⟩)] 119)).heap[K3]?=some (.cells #[.pointer p,gpv bb] 119 (0,0)):=by rw[←hN];exact heap_alloc_new _ _
 have k3:∀b,b<w2.heap.size→(w2.alloc (.cells #[.pointer p,.pointer (some ⟨bb,0,none⟩)] 119)).heap[b]?=w2.heap[b]?:=fun b hb=>Below.heap_alloc _ _ _ hb;have s3:(w2.alloc (.cells #[.pointer p,.pointer (some ⟨bb,0,none⟩)] 119)).heap.size=K3+1:=by rw[←hN];exact Array.size_push _
 generalize w2.alloc (.cells #[.pointer p,.pointer (some ⟨bb,0,none⟩)] 119)=w3 at *;obtain⟨own3,C3,hO3,hF3,hn3,ho3⟩:=C2.grown (w1:=w3) O (by omega) (fun b hb _=>k3 b hb);refine O.rebase hO3 hF3 ?_;have L3:Less md.i A₁ w₁ (fun b=>own3 b = .th md.i) ⟨w3.heap,m2,own3⟩:=zck C2 (fun b hb _=>k3 b hb) ho3;have o3:=hn3 K3 (by omega) (by omega);have LLL:=(LL.trans L1).trans L3;have hH3:HeldC own3 w3.heap ib s v p:=hH2.keep fun b t _ q=>by
  have qr:=C2.lt (b:=b) (by rw[q];simp);exact⟨(ho3 b qr).trans q,k3 b qr⟩
 have lt2:∀b,qk b = .th md.i→b<w2.heap.size:=fun b hb=>C2.lt (by rw[hb];simp);have oN3:=(ho3 N (lt2 _ oN1)).trans oN1;have oB3:=(ho3 _ (lt2 _ oB1)).trans oB1;have oK3:=(ho3 _ (lt2 _ oK1)).trans oK1;have eN3:=(k3 N (lt2 _ oN1)).trans eN1.out;have eB3:=(k3 _ (lt2 _ oB1)).trans eB1.out;have eK3:=(k3 _ (lt2 _ oK1)).trans eK1.out;have nK:∀b,A b→b≠N+2:=fun b h=>by have:=hA.out _ h;omega
 clear hO3 hF3 hn3 ho3 k3 hD0 hOk hN C2 CA lt2 eN1 eB1 eK1 oN1 oB1 oK1 hH2 hH;rw[zc5 _ rfl];obtain rfl:=qw.out;clear qw;refine z6x O Pt hib (K3:=K3) (N:=N) (w₁:=⟨w3.heap,m2,own3⟩) (A1:=fun b=>own3 b = .th md.i) hH3 (O.endMore qq LLL) C3 oN3 oK3 o3 eN3 e3 eK3 rfl rfl rfl rfl rfl rfl fun t x4 y4 own4 w4 m4 C4 oK4 eK4 u1 u7 u8 u11 u12 u13=>?_;have hBK:N+1≠N+2:=by omega
 obtain⟨oB4,qB⟩:=C4.mine (N+1) ⟨oB3,hBK⟩;have eB4:=qB.trans eB3;clear qB;have LL4:Less md.i A w₀ (fun b=>own3 b = .th md.i∧b≠N+2) ⟨w3.heap,m2,own3⟩:=LLL.drop nK;cases t with
 | false =>
  show md.GO y4 own4 w4 (κ ⟨false,0,[]⟩ m4) _ w4;generalize qw:κ ⟨false,0,[]⟩ m4=mc;replace qw:=yay qw;refine zas (c:=cB (cB (cA (zcn 14)))) (O.xc ..) rfl fun R0 qv=>?_;rw[show cA (cB (cB (cA (zcn 14))))=Code.region _ _ _ from rfl]
  unfold A96;simp only[u1,u7,u8,u11,u12,u13];refine O.seg0 C4 zbc (zac zag (by kernel_rfl)) rfl (zaa Try.func96) rfl fun wp hp=>?_;obtain⟨k0,k1,z0,z1⟩:=C4.kf O hp oK4 eK4;replace hp:=yay hp;replace eK4:=yay eK4;replace eB4:=yay eB4;replace eN3:=yay eN3;replace e3:=yay e3
  go_wp2_with fail
  refine⟨hp.out,?_⟩;clear hp k0 k1 z0 z1 wp;obtain rfl:=qv.out;clear qv;rw[show cB (cB (cB (cA (zcn 14))))=Code.cond (.tmp 189) (cA (cB (cB (cB (cA (zcn 14)))))) .skip from rfl]
  refine zau (O.xc ..) (t:=false) rfl ?_;refine zbf (O.xc ..) ?_;refine za6 (O.xc ..) ?_;rw[zc5 _ rfl];obtain rfl:=qw.out;exact zkf O C4 LL4 hA.out oB4 eB4.out rfl ⟨false,0,[]⟩ rfl oK4 eK4.out rfl rfl (qu.out ⟨false,0,[]⟩)
 | true =>
  show md.GO y4 own4 w4 (κ ⟨true,zbk v o.b,[]⟩ m4) _ w4;generalize qw:κ ⟨true,zbk v o.b,[]⟩ m4=mc;replace qw:=yay qw;refine zas (c:=cB (cB (cA (zcn 14)))) (O.xc ..) rfl fun R0 qv=>?_;rw[show cA (cB (cB (cA (zcn 14))))=Code.region _ _ _ from rfl]
  unfold A96;simp only[u1,u7,u8,u11,u12,u13];refine O.seg0 C4 zbc (zac zag (by kernel_rfl)) rfl (zaa Try.func96) rfl fun wp hp=>?_;obtain⟨k0,k1,z0,z1⟩:=C4.kf O hp oK4 eK4;replace hp:=yay hp;replace eK4:=yay eK4;replace eB4:=yay eB4;replace eN3:=yay eN3;replace e3:=yay e3
  go_wp2_with fail
  refine⟨hp.out,?_⟩;clear hp k0 k1 z0 z1 wp;obtain rfl:=qv.out;clear qv;rw[show cB (cB (cB (cA (zcn 14))))=Code.cond (.tmp 189) (cA (cB (cB (cB (cA (zcn 14)))))) .skip from rfl]
  refine zau (O.xc ..) (t:=true) rfl ?_;rw[if_pos rfl];rw[zc5 _ rfl];obtain rfl:=qw.out;have C5:=C4.all;have L5:=LL4.trans C4.allLess;obtain⟨oN4,qN⟩:=C4.mine N ⟨oN3,by omega⟩;have hKK:K3≠N+2:=fun z=>by
   have:=e3.out;rw[z,eK3] at this;simp at this
  obtain⟨oH4,qH⟩:=C4.mine K3 ⟨o3,hKK⟩;exact z6w O (ib:=ib) (s:=s) (p:=p) (K3:=K3) (w₁:=⟨w4.heap,m4,own4⟩) (A1:=fun b=>own4 b = .th md.i) (hH3.keep fun b t _ q=>C4.tg b t q) L5 hA.out C5 oN4 oB4 oK4 oH4 (qN.trans eN3.out) (qH.trans e3.out) eB4.out rfl eK4.out rfl rfl rfl rfl rfl rfl (qu.out ⟨true,zbk v o.b,[]⟩)
theorem z3q(O:md.Ok)(C:md.C y own A1 w₁ w m)(LL:Less md.i A w₀ A1 w₁)(hA:∀b,A b→b<N)(oB:own (N+1) = .th md.i)(eB:w.heap[N+1]?=some (.cells #[.bool false,.int .i64 0,.slice none 0 0] 42 (0,0)))(x8:x 8 = .pointer (some ⟨N+1,0,none⟩))
  (qu:∀v y own w m,md.C y own A w₀ w m→LRow (.th md.i) lo own w v []→(∀g,v.ownBlock=some g→¬A g)→md.GO y own w (κ ⟨false,0,[]⟩ m) (G (c.finish (zf9 ⟨false,0,[]⟩ v)) cs) w) :
  md.GO y own w (κ ⟨false,0,[]⟩ m) (G ((base 96).at (A96 x) (.code (cB (zcn 14))::R)) (c::cs)) w:=by
 generalize qw:κ ⟨false,0,[]⟩ m=mc;replace qw:=yay qw;replace qu:=yay qu;replace hA:=yay hA;refine zas (c:=cB (zcn 14)) (O.xc ..) rfl fun R0 qv=>?_;rw[show cA (cB (zcn 14))=Code.region _ _ _ from rfl]
 unfold A96;simp only[x8];refine za5 (O.xc ..) 2 (by decide) (by decide) (zai (by kernel_rfl)) (C.st O) fun wp hp=>?_;simp only[yad,yae];have hg:=(za8 hp (C.dm O (by rw[oB];simp))).trans eB;have c0:=zab hg 0;have c1:=zab hg 1;have c2:=zab hg 2;have z0:=zam hg 0;have z1:=zam hg 1;have z2:=zam hg 2;simp only[yac,yaa,yab] at c0 c1 c2;replace hg:=yay hg;replace hp:=yay hp;replace eB:=yay eB
 go_wp2_with fail
 refine⟨⟨rfl,rfl⟩,zkk _ (N+1) ⟨false,0,[]⟩ (.slice none 0 0),rfl,zhc (C.st O).okd _ _ _,zhb hp.out _ ⟨false,0,[]⟩ (.slice none 0 0),?_⟩;clear hg hp c0 c1 c2 z0 z1 z2 wp;refine zad (O.xc ..) ?_;obtain rfl:=qv.out;clear qv;rw[show cB (cB (zcn 14))=Code.ret from rfl]
 obtain rfl:=qw.out;exact zma O C LL (fun h=>by have:=hA.out _ h;omega) oB eB.out rfl ⟨false,0,[]⟩ LRow.nil (fun g hg=>by cases hg) (qu.out _) Try.func96 (zaa Try.func96) rfl rfl
noncomputable def zr0:Code:=cA (cB (cA (cB c96)))
theorem z1g(O:md.Ok)(C:md.C y own A1 w₁ w m)(LL:Less md.i A w₀ A1 w₁)(hA:∀b,A b→b<N)(oB:own (N+1) = .th md.i)(eB:w.heap[N+1]?=some (.cells #[.bool false,.int .i64 0,.slice none 0 0] 42 (0,0)))(x8:x 8 = .pointer (some ⟨N+1,0,none⟩))
  (qu:∀v y own w m,md.C y own A w₀ w m→LRow (.th md.i) lo own w v []→(∀g,v.ownBlock=some g→¬A g)→md.GO y own w (κ ⟨false,0,[]⟩ m) (G (c.finish (zf9 ⟨false,0,[]⟩ v)) cs) w) :
  md.GO y own w (κ ⟨false,0,[]⟩ m) (G ((base 96).at (A96 x) (.code (zr0)::R)) (c::cs)) w:=by
 generalize qw:κ ⟨false,0,[]⟩ m=mc;replace qw:=yay qw;replace qu:=yay qu;replace hA:=yay hA;refine zas (c:=zr0) (O.xc ..) rfl fun R0 qv=>?_;rw[show cA (zr0)=Code.region _ _ _ from rfl]
 unfold A96;simp only[x8];refine za5 (O.xc ..) 2 (by decide) (by decide) (zai (by kernel_rfl)) (C.st O) fun wp hp=>?_;simp only[yad,yae];have hg:=(za8 hp (C.dm O (by rw[oB];simp))).trans eB;have c0:=zab hg 0;have c1:=zab hg 1;have c2:=zab hg 2;have z0:=zam hg 0;have z1:=zam hg 1;have z2:=zam hg 2;simp only[yac,yaa,yab] at c0 c1 c2;replace hg:=yay hg;replace hp:=yay hp;replace eB:=yay eB
 go_wp2_with fail
 refine⟨⟨rfl,rfl⟩,zkk _ (N+1) ⟨false,0,[]⟩ (.slice none 0 0),rfl,zhc (C.st O).okd _ _ _,zhb hp.out _ ⟨false,0,[]⟩ (.slice none 0 0),?_⟩;clear hg hp c0 c1 c2 z0 z1 z2 wp;refine zad (O.xc ..) ?_;obtain rfl:=qv.out;clear qv;rw[show cB (zr0)=Code.ret from rfl]
 obtain rfl:=qw.out;exact zma O C LL (fun h=>by have:=hA.out _ h;omega) oB eB.out rfl ⟨false,0,[]⟩ LRow.nil (fun g hg=>by cases hg) (qu.out _) Try.func96 (zaa Try.func96) rfl rfl
end
structure V96(sv:Value)(wb fb bb N:Nat)(ok:Int)(x:Nat→Value):Prop where
 x1:x 1=sv
 x7:x 7 = .pointer (some ⟨N,0,none⟩)
 x8:x 8 = .pointer (some ⟨N+1,0,none⟩)
 x9:x 9=gpv wb
 x10:x 10=gpv fb
 x11:x 11=gpv bb
 x12:x 12 = .pointer (some ⟨N+2,0,none⟩)
 q:x 54 = .int .i64 ok
theorem zey{main:Bool}{K:World→Prop}{Still:Loc→Prop}{Inb:Nat→Option Seat}{GO:Goroutine→World→Prop}(X:XC Try.prog main K Still Inb GO){k:List Item}{cs:List Frame}{w:World}{id d1 d2 t1 t2:Nat}{p1 p2:String}{e1 e2:Array Edge}{sv:Value}{wb fb bb N:Nat}{ok n:Int}{A B:Code}{x:Nat→Value}(Y:V96 sv wb fb bb N ok x)(hd:∀j∈[1,7,8,9,10,11,12,54],j≠d1∧j≠d2)(h1:d1<197)(h2:d2<197)
  (hp:ok=n→∀y,V96 sv wb fb bb N ok y→GO (G ((base 96).at (A96 y) (.code A::k)) cs) w) (hn:ok≠n→∀y,V96 sv wb fb bb N ok y→GO (G ((base 96).at (A96 y) (.code B::k)) cs) w) :
  GO (G ((base 96).at (A96 x) (.code (.seq (.region id #[⟨some d1,.binOp .eql 3 (.tmp 54) (.const (.int .i64 n)) 3,t1,p1,e1,none⟩,⟨some d2,.assign (.tmp d1),t2,p2,e2,none⟩] false) (.cond (.tmp d2) A B))::k)) cs) w:=by
 have hs:(A96 x).tmps.size=197:=rfl;have fin:∀v:Value,∃y,(⟨((A96 x).tmps.setIfInBounds d1 v).setIfInBounds d2 v,[]⟩:Act)=A96 y∧V96 sv wb fb bb N ok y:=fun v=>by
  refine⟨_,zc5 _ (by rw[Array.size_setIfInBounds,Array.size_setIfInBounds];exact hs),?_⟩;have e:∀j,j∈[1,7,8,9,10,11,12,54]→(((A96 x).tmps.setIfInBounds d1 v).setIfInBounds d2 v).getD j undef=(A96 x).tmps.getD j undef:=fun j hj=>by
   rw[Array.getD_eq_getD_getElem?,Array.getD_eq_getD_getElem?,Array.getElem?_setIfInBounds_ne (Ne.symm (hd j hj).2),Array.getElem?_setIfInBounds_ne (Ne.symm (hd j hj).1)]
  exact⟨(e 1 (by decide)).trans Y.x1,(e 7 (by decide)).trans Y.x7,(e 8 (by decide)).trans Y.x8,(e 9 (by decide)).trans Y.x9,(e 10 (by decide)).trans Y.x10,(e 11 (by decide)).trans Y.x11,(e 12 (by decide)).trans Y.x12,(e 54 (by decide)).trans Y.q⟩
 refine z0s X (l:=(A96 x).tmps) (by decide) (congrArg some Y.q) (hs▸h1) (hs▸h2) (fun h=>?_) fun h=>?_
 ·obtain⟨y,e,V⟩:=fin (.bool true);rw[e];exact hp h y V
 ·obtain⟨y,e,V⟩:=fin (.bool false);rw[e];exact hn h y V
theorem zkr{w v:World}(h:Sim w v):Sim w.drew v:=by
 obtain⟨τ,d,rfl⟩:=h;exact⟨τ,d+1,rfl⟩
def RowT(own:Nat→Owner)(hp:Array Obj)(e:TypeId)(v:Value)(n:Nat)(f:Nat→Nat):Prop:=∃a cap,v = .slice a n cap∧n≤cap∧(0<n→∃b c,a=some ⟨b,0,none⟩∧own b = .tag 1∧hp[b]?=some (.cells c e (0,0))∧∀i,i<n→c[i]?=some (gpv (f i)))
structure PlAt(P:Nat)(L:CL)(own:Nat→Owner)(w:World):Prop where
 tag:own P = .tag 1
 at_:∃vw vf vb,w.heap[P]?=some (.cells #[vw,vf,vb] 256 (0,0))∧RowT own w.heap 73 vw L.n L.wb∧RowT own w.heap 75 vf L.n L.fb∧RowT own w.heap 77 vb L.n L.bb
theorem RowT.keep{own own':Nat→Owner}{hp hp':Array Obj}{e:TypeId}{v:Value}{n:Nat}{f:Nat→Nat}(h:RowT own hp e v n f)(hk:∀b v,0<v→own b = .tag v→own' b = .tag v∧hp'[b]?=hp[b]?):RowT own' hp' e v n f:=by
 obtain⟨a,cap,e0,h0,q⟩:=h;exact⟨a,cap,e0,h0,fun hn=>by
  obtain⟨b,c,e1,e2,e3,e4⟩:=q hn;exact⟨b,c,e1,(hk b 1 (by decide) e2).1,(hk b 1 (by decide) e2).2.trans e3,e4⟩⟩
theorem PlAt.stab(P:Nat)(L:CL):z6a (PlAt P L):=fun{own own' w w'} h hk=>by
 obtain⟨h1,vw,vf,vb,h2,h3,h4,h5⟩:=h;exact⟨(hk P 1 (by decide) h1).1,vw,vf,vb,(hk P 1 (by decide) h1).2.trans h2,h3.keep hk,h4.keep hk,h5.keep hk⟩
def doC(n f:Nat)(o:OpD)(κ:Ans→Fu (SM za7)):Fu (SM za7) :=
 if o.a<0∨(n:Int)≤o.a then κ ⟨false,0,[]⟩
 else if o.kind=1 then zd7 (zcc o.a.toNat) (fun r=>κ ⟨true,r,[]⟩)
 else if o.kind=2 then zfq (zcc o.a.toNat) o.b (κ ⟨true,0,[]⟩)
 else if o.kind=3 then zmf (zcc o.a.toNat) o.b (fun r=>κ ⟨true,r,[]⟩)
 else if o.kind=4 then zif (zcc o.a.toNat) o.b (fun r=>κ ⟨true,r,[]⟩)
 else if o.kind=5 then zhi (zcc o.a.toNat) o.b o.c (fun t=>κ ⟨t,0,[]⟩)
 else if o.kind=6 then zbt (zcc o.a.toNat) (grT o.b) (fun r t=>κ ⟨t,r,[]⟩) f
 else if o.kind=7 then zbt (zcc o.a.toNat) (leT o.b) (fun r t=>κ ⟨t,r,[]⟩) f
 else if o.kind=8 then zbt (zcc o.a.toNat) (buT o.b o.c) (fun r t=>κ ⟨t,r,[]⟩) f
 else if o.kind=9 then zi5 (zhl o.a.toNat) (fun t=>κ ⟨t,0,[]⟩)
 else if o.kind=10 then zoj (zhl o.a.toNat) (fun t=>κ ⟨t,0,[]⟩)
 else if o.kind=11 then zfz (zhl o.a.toNat) (fun t=>κ ⟨t,0,[]⟩)
 else if o.kind=12 then xloadF (zdm o.a.toNat) (fun _ v=>κ ⟨true,v,[]⟩)
 else if o.kind=13 then zfp (zdm o.a.toNat) o.b (κ ⟨true,0,[]⟩)
 else if o.kind=14 then zic (zdm o.a.toNat) o.b (fun r=>κ ⟨true,r,[]⟩)
 else if o.kind=15 then xloadF (zdm o.a.toNat) (fun s v=>stepF (xcasP (zdm o.a.toNat) s (zbk v o.b) (fun t=>κ (if t then⟨true,zbk v o.b,[]⟩ else⟨false,0,[]⟩))))
 else κ ⟨false,0,[]⟩
section
variable{md:Md (SM za7)}{L:CL}{Z:AL}{P lo:Nat}
theorem z5p(O:md.Ok)(hmd:md.Rep=GRep (zjc L (PlAt P L)) Z)(f:Nat)(hlo:∀{m own w},md.Rep m own w→lo≤w.heap.size):z6d md lo 96 (gpv P) (doC L.n f):=by
 intro o th κ A w₀ c cs ho qq qu y own w m C;obtain⟨ok,oa,ob,oc⟩:=o;unfold opV gpv;rw[enter_at _ Try.func96 rfl];simp only[Try.ntmps96,yan,yau,yav,Nat.reduceAdd,Nat.reduceSub,yao,
   yap,yaq,yar,yas,yat]
 show md.GO _ _ _ _ (G ((base 96).at _ [.code c96]) _) _;generalize qw:doC L.n f ⟨ok,oa,ob,oc⟩ κ m=mc;replace qw:=yay qw;replace qu:=yay qu;obtain⟨N,hN⟩:∃N,w.heap.size=N:=⟨_,rfl⟩;have hloN:=hlo C.rep;refine zas (c:=c96) (O.xc ..) rfl fun R0 qv=>?_;rw[show cA c96=Code.region _ _ _ from rfl]
 refine O.segA C zbc (zac zag (by kernel_rfl)) rfl (zaa Try.func96) rfl fun wp hp=>?_;have qp:wp.heap.size=N:=by rw[hp.heap,zaw];exact hN
 replace hp:=yay hp;replace qp:=yay qp;replace hN:=yay hN;replace hloN:=yay hloN
 go_wp2_with fail
 rw[qp.out];refine fun w1 q1 q2 q3=>O.two C hp.out rfl hN.out q1 q2 q3 fun qm C1 e1 e2 s1 o1 o2 LL low=>?_;have hA:∀b,A b→b<N:=fun b hb=>by
  rw[←hN.out];exact C.lt (by rw[(C.mine b hb).1];simp)
 clear q1 q2 q3 hp qp wp low;obtain rfl:=qv.out;clear qv;have hQ:PlAt P L qm w1:=by
  have:=C1.rep;rw[hmd] at this;exact this.fam.2
 obtain⟨hPt,vw,vf,vb,hP,hrw,hrf,hrb⟩:=hQ;have hn6:L.n≤65536:=by
  have:=C1.rep;rw[hmd] at this;exact this.fam.1.n
 obtain⟨aw,cw,rfl,hcw,hrw⟩:=hrw;obtain⟨af,cf,rfl,hcf,hrf⟩:=hrf;obtain⟨ab,cb,rfl,hcb,hrb⟩:=hrb;obtain⟨n,hnn⟩:∃n,L.n=n:=⟨_,rfl⟩;rw[hnn] at hP hrw hrf hrb hn6 qw;rw[hnn] at hcw hcf hcb;replace hnn:=yay hnn;replace C:=yay C;replace hA:=yay hA;replace s1:=yay s1;replace hP:=yay hP;replace hrw:=yay hrw;replace hrf:=yay hrf;replace hrb:=yay hrb;replace hn6:=yay hn6;have cP:Hid (∀wp:World,Sim wp (poi md.D w1)→wp.cell? ⟨P,0,none⟩=some (.slice aw n cw)∧wp.cell? ⟨P,1,none⟩=some (.slice af n cf)∧wp.cell? ⟨P,2,none⟩=some (.slice ab n cb)):=yay fun wp hp=>by
  have g:=(za8 hp (C1.dm O (by rw[hPt];simp))).trans hP.out;exact⟨zab g 0,zab g 1,zab g 2⟩
 have cN:Hid (∀wp:World,Sim wp (poi md.D w1)→wp.cell? ⟨N,0,none⟩=some (.int .i64 ok)∧wp.cell? ⟨N,1,none⟩=some (.int .i64 oa)):=yay fun wp hp=>by
  have g:=(za8 hp (C1.dm O (by rw[o1];simp))).trans e1;exact⟨zab g 0,zab g 1⟩
 refine zas (c:=cB c96) (O.xc ..) rfl fun R0 qv=>?_;refine zas (c:=cA (cB c96)) (O.xc ..) rfl fun R1 qs=>?_;rw[show cA (cA (cB c96))=Code.region _ _ _ from rfl]
 by_cases hneg:oa<0
 ·have hbad:oa<0∨(n:Int)≤oa := .inl hneg;have hd:decide (oa<0)=true:=decide_eq_true hneg;have eD:doC n f ⟨ok,oa,ob,oc⟩ κ=κ ⟨false,0,[]⟩:=by unfold doC;rw[if_pos hbad]
  rw[eD] at qw;clear eD;clear hneg;replace hbad:=yay hbad;refine O.seg0 C1 zbc (zac zag (by kernel_rfl)) rfl (zaa Try.func96) rfl fun wp hp=>?_;have p0:=(cP.out wp hp).1;have n1:=(cN.out wp hp).2;replace hp:=yay hp;go_region
  go_wp2_with fail
  refine⟨zkr hp.out,?_⟩;clear hp p0 n1 wp;obtain rfl:=qs.out;clear qs;rw[show cB (cA (cB c96))=Code.cond (.tmp 26) zr0 .skip from rfl]
  refine zau (O.xc ..) (t:=true) rfl ?_;rw[if_pos rfl,zc5 _ rfl];obtain rfl:=qw.out;exact z1g O C1 LL hA.out o2 e2 rfl (qu.out ⟨false,0,[]⟩)
 have hd:decide (oa<0)=false:=decide_eq_false hneg;by_cases hge:oa≥n
 ·have hbad:oa<0∨(n:Int)≤oa := .inr hge;have hd2:decide (oa≥n)=true:=decide_eq_true hge;have eD:doC n f ⟨ok,oa,ob,oc⟩ κ=κ ⟨false,0,[]⟩:=by unfold doC;rw[if_pos hbad]
  rw[eD] at qw;clear eD;clear hneg hge;replace hbad:=yay hbad;refine O.seg0 C1 zbc (zac zag (by kernel_rfl)) rfl (zaa Try.func96) rfl fun wp hp=>?_;have p0:=(cP.out wp hp).1;have n1:=(cN.out wp hp).2;replace hp:=yay hp;go_region
  go_wp2_with fail
  refine⟨zkr hp.out,?_⟩;clear hp p0 n1 wp;obtain rfl:=qs.out;clear qs;rw[show cB (cA (cB c96))=Code.cond (.tmp 26) zr0 .skip from rfl]
  refine zau (O.xc ..) (t:=true) rfl ?_;rw[if_pos rfl,zc5 _ rfl];obtain rfl:=qw.out;exact z1g O C1 LL hA.out o2 e2 rfl (qu.out ⟨false,0,[]⟩)
 have hd2:decide (oa≥n)=false:=decide_eq_false hge;obtain⟨j,rfl⟩:∃j:Nat,oa=j:=⟨oa.toNat,by omega⟩;have hj:j<n:=by omega
 have hgood:¬(((j:Nat):Int)<0∨(n:Int)≤((j:Nat):Int)):=by omega
 replace hgood:=yay hgood;clear hneg hge;refine O.seg0 C1 zbc (zac zag (by kernel_rfl)) rfl (zaa Try.func96) rfl fun wp hp=>?_;have p0:=(cP.out wp hp).1;have n1:=(cN.out wp hp).2;replace hp:=yay hp;go_region
 go_wp2_with fail
 refine⟨zkr hp.out,?_⟩;clear hp p0 n1 wp;obtain rfl:=qs.out;clear qs hd hd2;rw[show cB (cA (cB c96))=Code.cond (.tmp 26) zr0 .skip from rfl]
 refine zau (O.xc ..) (t:=false) (by show Value.bool (decide (n≤j))=_;rw[decide_eq_false (by omega)]) ?_;refine zbf (O.xc ..) ?_;obtain rfl:=qv.out;clear qv;have hjL:j<L.n:=by rw[hnn.out];exact hj
 have hPW:=z60 (i:=j) (PlAt.stab P L) hmd hjL;have hPF:=z61 (i:=j) (PlAt.stab P L) hmd hjL;have hPB:=z62 (i:=j) (PlAt.stab P L) hmd hjL;have hib:j<65536:=by have:=hn6.out;omega
 obtain⟨rw_,rwc,rfl,ow,ew,cw'⟩:=hrw.out (by omega);obtain⟨rf_,rfc,rfl,of_,ef,cf'⟩:=hrf.out (by omega);obtain⟨rb_,rbc,rfl,ob_,eb,cb'⟩:=hrb.out (by omega);have hw3:=cw' j hj;have hf3:=cf' j hj;have hb3:=cb' j hj;clear cw' cf' cb' hrw hrf hrb;have cR:Hid (∀wp:World,Sim wp (poi md.D w1)→wp.cell? ⟨rw_,j,none⟩=some (gpv (L.wb j))∧wp.cell? ⟨rf_,j,none⟩=some (gpv (L.fb j))∧wp.cell? ⟨rb_,j,none⟩=some (gpv (L.bb j))):=yay fun wp hp=>by
  have g1:=(za8 hp (C1.dm O (by rw[ow];simp))).trans ew;have g2:=(za8 hp (C1.dm O (by rw[of_];simp))).trans ef;have g3:=(za8 hp (C1.dm O (by rw[ob_];simp))).trans eb;exact⟨(zab g1 j).trans hw3,(zab g2 j).trans hf3,(zab g3 j).trans hb3⟩
 clear hw3 hf3 hb3 ow of_ ob_ ew ef eb;have q0:(0:Int)≤(j:Nat):=by omega
 have q1:(j:Int)<(n:Int):=by omega
 generalize hwb:L.wb j=wb at *;generalize hfb:L.fb j=fb at *;generalize hbb:L.bb j=bb at *;unfold gpv at cR;refine zas (c:=cB (cB c96)) (O.xc ..) rfl fun R0 qv=>?_;rw[show cA (cB (cB c96))=Code.region _ _ _ from rfl]
 refine O.seg0 C1 zbc (zac zag (by kernel_rfl)) rfl (zaa Try.func96) rfl fun wp hp=>?_;obtain⟨p0,p1,p2⟩:=cP.out wp hp;obtain⟨r0,r1,r2⟩:=cR.out wp hp;have n1:=(cN.out wp hp).2;replace hp:=yay hp
 go_region_held3 (fun W'=>W'.cell? ⟨P,0,none⟩=some (.slice (some ⟨rw_,0,none⟩) n cw)∧W'.cell? ⟨P,1,none⟩=some (.slice (some ⟨rf_,0,none⟩) n cf)∧W'.cell? ⟨P,2,none⟩=some (.slice (some ⟨rb_,0,none⟩) n cb)∧W'.cell? ⟨rw_,j,none⟩=some (.pointer (some ⟨wb,0,none⟩))∧W'.cell? ⟨rf_,j,none⟩=some (.pointer (some ⟨fb,0,none⟩))∧W'.cell? ⟨rb_,j,none⟩=some (.pointer (some ⟨bb,0,none⟩))∧W'.cell? ⟨N,1,none⟩=some (.int .i64 (j:Nat)))
  (exact⟨p0,p1,p2,r0,r1,r2,n1⟩)
  (fail)
 go_wp2_with fail
 refine⟨zkr hp.out,?_⟩;rename_i hHd;clear hHd hp p0 p1 p2 r0 r1 r2 n1 wp;obtain rfl:=qv.out;clear qv;have hI1:=C1;refine zas (c:=cB (cB (cB c96))) (O.xc ..) rfl fun R0 qv=>?_;rw[show cA (cB (cB (cB c96)))=Code.region _ _ _ from rfl]
 have s1':=s1.out;refine O.segA C1 zbc (zac zag (by kernel_rfl)) rfl (zaa Try.func96) rfl fun wp hp=>?_;have qp:wp.heap.size=N+2:=by rw[hp.heap,zaw];exact s1'
 clear s1';replace hp:=yay hp;replace qp:=yay qp;replace hN:=yay hN;replace hloN:=yay hloN
 go_wp2_with fail
 rw[qp.out];refine fun w4 q1 q2 q3=>O.one C1 hp.out rfl s1.out q1 q2 q3 fun own4 C4 e4 s4 o4 L4 low4=>?_;have hlt0:N<w1.heap.size:=by rw[s1.out];omega
 have hlt1:N+1<w1.heap.size:=by rw[s1.out];omega
 have eN4:=(low4 N (by omega)).1.trans e1;have oN4:=(low4 N (by omega)).2.trans o1;have eB4:=(low4 (N+1) (by omega)).1.trans e2;have oB4:=(low4 (N+1) (by omega)).2.trans o2;have LL4:=LL.trans L4;clear q1 q2 q3 hp qp wp low4 hI1 hlt0 hlt1;obtain rfl:=qv.out;clear qv;have mkI:∀x:Nat→Value,x 1=md.sv→x 7 = .pointer (some ⟨N,0,none⟩)→x 8 = .pointer (some ⟨N+1,0,none⟩)→x 9=gpv wb→x 10=gpv fb→x 11=gpv bb→x 12 = .pointer (some ⟨N+2,0,none⟩)→zq8 md wb fb bb lo A w₀ c cs κ ⟨ok,(j:Nat),ob,oc⟩ y own4 w4 m N x:=fun x z1 z7 z8 z9 z10 z11 z12=>⟨ho,qq,qu.out,C4,LL4,hA.out,oN4,eN4,oB4,eB4,o4,e4,z1,z7,z8,z9,z10,z11,z12⟩;replace mkI:=yay mkI;replace qq:=yay qq;replace ho:=yay ho;replace LL:=yay LL;replace LL4:=yay LL4;replace L4:=yay L4;replace s1:=yay s1;replace s4:=yay s4;replace e1:=yay e1;replace e2:=yay e2;replace eN4:=yay eN4;replace eB4:=yay eB4;replace e4:=yay e4;replace C1:=yay C1;have n4:Hid (∀wp:World,Sim wp (poi md.D w4)→wp.cell? ⟨N,0,none⟩=some (.int .i64 ok)):=yay fun wp hp=>by
  have g:=(za8 hp (C4.dm O (by rw[oN4];simp))).trans eN4.out;exact zab g 0
 clear cP cN cR hP;refine zas (c:=cB (cB (cB (cB c96)))) (O.xc ..) rfl fun R0 qv=>?_;refine zas (c:=cA (cB (cB (cB (cB c96))))) (O.xc ..) rfl fun R1 qs=>?_;rw[show cA (cA (cB (cB (cB (cB c96)))))=Code.region _ _ _ from rfl]
 refine O.seg0 C4 zbc (zac zag (by kernel_rfl)) rfl (zaa Try.func96) rfl fun wp hp=>?_;have k0:=n4.out wp hp;replace hp:=yay hp
 go_wp2_with fail
 refine⟨hp.out,?_⟩;clear hp k0 wp;obtain rfl:=qs.out;clear qs;rw[show cB (cA (cB (cB (cB (cB c96)))))=Code.block _ (cA (cB (cA (cB (cB (cB (cB c96))))))) from rfl]
 refine zce (O.xc ..) ?_;have hm:=qw.out;unfold doC at hm;rw[if_neg hgood.out] at hm;dsimp only at hm;replace qw:=yay hm;clear hm;rw[zc5 _ rfl];refine zey (A:=cA (zcn 0)) (B:=cB (zcn 0)) (O.xc ..) (show V96 md.sv wb fb bb N ok _ from⟨rfl,rfl,rfl,rfl,rfl,rfl,rfl,rfl⟩) (by decide) (by decide) (by decide) (fun k x V=>?_) fun k x V=>?_
 ·have hm:=qw.out;rw[if_pos k] at hm;obtain rfl:=qv.out;obtain rfl:=hm;exact z3r O hPW (o:=⟨ok,(j:Nat),ob,oc⟩) (mkI.out _ V.x1 V.x7 V.x8 V.x9 V.x10 V.x11 V.x12)
 have hm:=qw.out;rw[if_neg k] at hm;replace qw:=yay hm;clear hm k;refine zey (A:=cA (zcn 1)) (B:=cB (zcn 1)) (O.xc ..) V (by decide) (by decide) (by decide) (fun k x V=>?_) fun k x V=>?_
 ·have hm:=qw.out;rw[if_pos k] at hm;obtain rfl:=qv.out;obtain rfl:=hm;exact z0f O hPW (o:=⟨ok,(j:Nat),ob,oc⟩) (mkI.out _ V.x1 V.x7 V.x8 V.x9 V.x10 V.x11 V.x12)
 have hm:=qw.out;rw[if_neg k] at hm;replace qw:=yay hm;clear hm k;refine zey (A:=cA (zcn 2)) (B:=cB (zcn 2)) (O.xc ..) V (by decide) (by decide) (by decide) (fun k x V=>?_) fun k x V=>?_
 ·have hm:=qw.out;rw[if_pos k] at hm;obtain rfl:=qv.out;obtain rfl:=hm;exact z5t O hPW (o:=⟨ok,(j:Nat),ob,oc⟩) (mkI.out _ V.x1 V.x7 V.x8 V.x9 V.x10 V.x11 V.x12)
 have hm:=qw.out;rw[if_neg k] at hm;replace qw:=yay hm;clear hm k;refine zey (A:=cA (zcn 3)) (B:=cB (zcn 3)) (O.xc ..) V (by decide) (by decide) (by decide) (fun k x V=>?_) fun k x V=>?_
 ·have hm:=qw.out;rw[if_pos k] at hm;obtain rfl:=qv.out;obtain rfl:=hm;exact z3p O hPW (o:=⟨ok,(j:Nat),ob,oc⟩) (mkI.out _ V.x1 V.x7 V.x8 V.x9 V.x10 V.x11 V.x12)
 have hm:=qw.out;rw[if_neg k] at hm;replace qw:=yay hm;clear hm k;refine zey (A:=cA (zcn 4)) (B:=cB (zcn 4)) (O.xc ..) V (by decide) (by decide) (by decide) (fun k x V=>?_) fun k x V=>?_
 ·have hm:=qw.out;rw[if_pos k] at hm;obtain rfl:=qv.out;obtain rfl:=hm;exact z5s O hPW (o:=⟨ok,(j:Nat),ob,oc⟩) (mkI.out _ V.x1 V.x7 V.x8 V.x9 V.x10 V.x11 V.x12)
 have hm:=qw.out;rw[if_neg k] at hm;replace qw:=yay hm;clear hm k;refine zey (A:=cA (zcn 5)) (B:=cB (zcn 5)) (O.xc ..) V (by decide) (by decide) (by decide) (fun k x V=>?_) fun k x V=>?_
 ·have hm:=qw.out;rw[if_pos k] at hm;obtain rfl:=qv.out;obtain rfl:=hm;exact zse O hPW f (o:=⟨ok,(j:Nat),ob,oc⟩) (mkI.out _ V.x1 V.x7 V.x8 V.x9 V.x10 V.x11 V.x12)
 have hm:=qw.out;rw[if_neg k] at hm;replace qw:=yay hm;clear hm k;refine zey (A:=cA (zcn 6)) (B:=cB (zcn 6)) (O.xc ..) V (by decide) (by decide) (by decide) (fun k x V=>?_) fun k x V=>?_
 ·have hm:=qw.out;rw[if_pos k] at hm;obtain rfl:=qv.out;obtain rfl:=hm;exact z0g O hPW f (o:=⟨ok,(j:Nat),ob,oc⟩) (mkI.out _ V.x1 V.x7 V.x8 V.x9 V.x10 V.x11 V.x12)
 have hm:=qw.out;rw[if_neg k] at hm;replace qw:=yay hm;clear hm k;refine zey (A:=cA (zcn 7)) (B:=cB (zcn 7)) (O.xc ..) V (by decide) (by decide) (by decide) (fun k x V=>?_) fun k x V=>?_
 ·have hm:=qw.out;rw[if_pos k] at hm;obtain rfl:=qv.out;obtain rfl:=hm;exact z3t O hPW f (o:=⟨ok,(j:Nat),ob,oc⟩) (mkI.out _ V.x1 V.x7 V.x8 V.x9 V.x10 V.x11 V.x12)
 have hm:=qw.out;rw[if_neg k] at hm;replace qw:=yay hm;clear hm k;refine zey (A:=cA (zcn 8)) (B:=cB (zcn 8)) (O.xc ..) V (by decide) (by decide) (by decide) (fun k x V=>?_) fun k x V=>?_
 ·have hm:=qw.out;rw[if_pos k] at hm;obtain rfl:=qv.out;obtain rfl:=hm;exact z0h O hPF (o:=⟨ok,(j:Nat),ob,oc⟩) (mkI.out _ V.x1 V.x7 V.x8 V.x9 V.x10 V.x11 V.x12)
 have hm:=qw.out;rw[if_neg k] at hm;replace qw:=yay hm;clear hm k;refine zey (A:=cA (zcn 9)) (B:=cB (zcn 9)) (O.xc ..) V (by decide) (by decide) (by decide) (fun k x V=>?_) fun k x V=>?_
 ·have hm:=qw.out;rw[if_pos k] at hm;obtain rfl:=qv.out;obtain rfl:=hm;exact z3s O hPF (o:=⟨ok,(j:Nat),ob,oc⟩) (mkI.out _ V.x1 V.x7 V.x8 V.x9 V.x10 V.x11 V.x12)
 have hm:=qw.out;rw[if_neg k] at hm;replace qw:=yay hm;clear hm k;refine zey (A:=cA (zcn 10)) (B:=cB (zcn 10)) (O.xc ..) V (by decide) (by decide) (by decide) (fun k x V=>?_) fun k x V=>?_
 ·have hm:=qw.out;rw[if_pos k] at hm;obtain rfl:=qv.out;obtain rfl:=hm;exact zxp O hPF (o:=⟨ok,(j:Nat),ob,oc⟩) (mkI.out _ V.x1 V.x7 V.x8 V.x9 V.x10 V.x11 V.x12)
 have hm:=qw.out;rw[if_neg k] at hm;replace qw:=yay hm;clear hm k;refine zey (A:=cA (zcn 11)) (B:=cB (zcn 11)) (O.xc ..) V (by decide) (by decide) (by decide) (fun k x V=>?_) fun k x V=>?_
 ·have hm:=qw.out;rw[if_pos k] at hm;obtain rfl:=qv.out;obtain rfl:=hm;exact z0e O hPB (o:=⟨ok,(j:Nat),ob,oc⟩) (mkI.out _ V.x1 V.x7 V.x8 V.x9 V.x10 V.x11 V.x12)
 have hm:=qw.out;rw[if_neg k] at hm;replace qw:=yay hm;clear hm k;refine zey (A:=cA (zcn 12)) (B:=cB (zcn 12)) (O.xc ..) V (by decide) (by decide) (by decide) (fun k x V=>?_) fun k x V=>?_
 ·have hm:=qw.out;rw[if_pos k] at hm;obtain rfl:=qv.out;obtain rfl:=hm;exact zxo O hPB hib (o:=⟨ok,(j:Nat),ob,oc⟩) (mkI.out _ V.x1 V.x7 V.x8 V.x9 V.x10 V.x11 V.x12)
 have hm:=qw.out;rw[if_neg k] at hm;replace qw:=yay hm;clear hm k;refine zey (A:=cA (zcn 13)) (B:=cB (zcn 13)) (O.xc ..) V (by decide) (by decide) (by decide) (fun k x V=>?_) fun k x V=>?_
 ·have hm:=qw.out;rw[if_pos k] at hm;obtain rfl:=qv.out;obtain rfl:=hm;exact z0c O hPB hib (o:=⟨ok,(j:Nat),ob,oc⟩) (mkI.out _ V.x1 V.x7 V.x8 V.x9 V.x10 V.x11 V.x12)
 have hm:=qw.out;rw[if_neg k] at hm;replace qw:=yay hm;clear hm k;refine zey (A:=cA (zcn 14)) (B:=cB (zcn 14)) (O.xc ..) V (by decide) (by decide) (by decide) (fun k x V=>?_) fun k x V=>?_
 ·have hm:=qw.out;rw[if_pos k] at hm;obtain rfl:=qv.out;obtain rfl:=hm;exact zxq O hPB hib (o:=⟨ok,(j:Nat),ob,oc⟩) (mkI.out _ V.x1 V.x7 V.x8 V.x9 V.x10 V.x11 V.x12)
 have hm:=qw.out;rw[if_neg k] at hm;replace qw:=yay hm;clear hm k;obtain rfl:=qv.out;obtain rfl:=qw.out;exact z3q O C4 LL4.out hA.out oB4 eB4.out V.x8 (qu.out ⟨false,0,[]⟩)
end
structure V35(sv:Value)(wb fb bb N T:Nat)(ok:Int)(x:Nat→Value):Prop where
 x1:x 1=sv
 x3:x 3 = .pointer (some ⟨T,0,none⟩)
 x5:x 5 = .pointer (some ⟨N,0,none⟩)
 x6:x 6 = .pointer (some ⟨N+1,0,none⟩)
 x7:x 7 = .pointer (some ⟨N+2,0,none⟩)
 q:x 13 = .int .i64 ok
theorem zez{main:Bool}{K:World→Prop}{Still:Loc→Prop}{Inb:Nat→Option Seat}{GO:Goroutine→World→Prop}(X:XC Try.prog main K Still Inb GO){k:List Item}{cs:List Frame}{w:World}{id d1 d2 t1 t2:Nat}{p1 p2:String}{e1 e2:Array Edge}{sv:Value}{wb fb bb N T:Nat}{ok n:Int}{A B:Code}{x:Nat→Value}(Y:V35 sv wb fb bb N T ok x)(hd:∀j∈[1,3,5,6,7,13],j≠d1∧j≠d2)(h1:d1<170)(h2:d2<170)
  (hp:ok=n→∀y,V35 sv wb fb bb N T ok y→GO (G ((base 35).at (A35 y) (.code A::k)) cs) w) (hn:ok≠n→∀y,V35 sv wb fb bb N T ok y→GO (G ((base 35).at (A35 y) (.code B::k)) cs) w) :
  GO (G ((base 35).at (A35 x) (.code (.seq (.region id #[⟨some d1,.binOp .eql 3 (.tmp 13) (.const (.int .i64 n)) 3,t1,p1,e1,none⟩,⟨some d2,.assign (.tmp d1),t2,p2,e2,none⟩] false) (.cond (.tmp d2) A B))::k)) cs) w:=by
 have hs:(A35 x).tmps.size=170:=rfl;have fin:∀v:Value,∃y,(⟨((A35 x).tmps.setIfInBounds d1 v).setIfInBounds d2 v,[]⟩:Act)=A35 y∧V35 sv wb fb bb N T ok y:=fun v=>by
  refine⟨_,zde _ (by rw[Array.size_setIfInBounds,Array.size_setIfInBounds];exact hs),?_⟩;have e:∀j,j∈[1,3,5,6,7,13]→(((A35 x).tmps.setIfInBounds d1 v).setIfInBounds d2 v).getD j undef=(A35 x).tmps.getD j undef:=fun j hj=>by
   rw[Array.getD_eq_getD_getElem?,Array.getD_eq_getD_getElem?,Array.getElem?_setIfInBounds_ne (Ne.symm (hd j hj).2),Array.getElem?_setIfInBounds_ne (Ne.symm (hd j hj).1)]
  exact⟨(e 1 (by decide)).trans Y.x1,(e 3 (by decide)).trans Y.x3,(e 5 (by decide)).trans Y.x5,(e 6 (by decide)).trans Y.x6,(e 7 (by decide)).trans Y.x7,(e 13 (by decide)).trans Y.q⟩
 refine z0s X (l:=(A35 x).tmps) (by decide) (congrArg some Y.q) (hs▸h1) (hs▸h2) (fun h=>?_) fun h=>?_
 ·obtain⟨y,e,V⟩:=fin (.bool true);rw[e];exact hp h y V
 ·obtain⟨y,e,V⟩:=fin (.bool false);rw[e];exact hn h y V
theorem Md.Ok.three{M:Type}[Priv M]{md:Md M}{own:Nat→Owner}{A:Nat→Prop}{w₀:W0 M}{w wp w' w1:World}{m:M}{mc:M×Co M}{g:Goroutine}{N:Nat}{x:md.β}(O:md.Ok)(C:md.C x own A w₀ w m)(hp:Sim wp (poi md.D w)){o1 o2 o3:Obj}(hw:w'.heap=((wp.heap.push o1).push o2).push o3)(hN:w.heap.size=N)(q1:∀b:Nat,md.D b=none→w1.heap[b]?=w'.heap[b]?)(q2:∀b:Nat,w'.heap[b]?=wp.heap[b]?→w1.heap[b]?=w.heap[b]?)(q3:w1.heap.size=N+1+1+1)
  (h:∀qm,md.C x qm (fun b=>qm b = .th md.i) ⟨w1.heap,m,qm⟩ w1 m→w1.heap[N]?=some o1→w1.heap[N+1]?=some o2→w1.heap[N+2]?=some o3→w1.heap.size=N+3→qm N = .th md.i→qm (N+1) = .th md.i→qm (N+2) = .th md.i→Less md.i A w₀ (fun b=>qm b = .th md.i) ⟨w1.heap,m,qm⟩→(∀b,b<N→w1.heap[b]?=w.heap[b]?∧qm b=own b)→md.GO x qm w1 mc g w1) :
  md.GO x own w mc g w1:=by
 subst hN;have hs0:wp.heap.size=w.heap.size:=by rw[hp.heap,zaw]
 have hs:w1.heap.size=w.heap.size+3:=q3;have hb:∀b,b<w.heap.size→w1.heap[b]?=w.heap[b]?:=fun b hb=>q2 b (by rw[hw,Array.getElem?_push,if_neg (by simp;omega),Array.getElem?_push,if_neg (by simp;omega),Array.getElem?_push,if_neg (by omega)]);have e1:w1.heap[w.heap.size]?=some o1:=by rw[q1 _ (C.dn O (yax _)),hw,Array.getElem?_push,if_neg (by simp;omega),Array.getElem?_push,if_neg (by simp;omega),Array.getElem?_push,if_pos (by omega)]
 have e2:w1.heap[w.heap.size+1]?=some o2:=by rw[q1 _ (C.dn O (Nat.le_succ _)),hw,Array.getElem?_push,if_neg (by simp;omega),Array.getElem?_push,if_pos (by simp;omega)]
 have e3:w1.heap[w.heap.size+2]?=some o3:=by rw[q1 _ (C.dn O (by omega)),hw,Array.getElem?_push,if_pos (by simp;omega)]
 obtain⟨qm,C1,h1,h2,h3,h4⟩:=C.grown (w1:=w1) O (by omega) (fun b hb' _=>hb b hb');exact O.rebase h1 h2 (h qm C1 e1 e2 e3 hs (h3 _ (yax _) (by omega)) (h3 _ (by omega) (by omega)) (h3 _ (by omega) (by omega)) (zck C (fun b hb' _=>hb b hb') h4) fun b hb'=>⟨hb b hb',h4 b hb'⟩)
def zos{S:Type}(LW:zco S Int)(LF:zco S Bool)(LB:zco S BoxS)(f:Nat)(o:OpD)(κ:Ans→Fu (SM S)):Fu (SM S) :=
 if o.kind=1 then zd7 LW (fun r=>κ ⟨true,r,[]⟩)
 else if o.kind=2 then zfq LW o.b (κ ⟨true,0,[]⟩)
 else if o.kind=3 then zmf LW o.b (fun r=>κ ⟨true,r,[]⟩)
 else if o.kind=4 then zif LW o.b (fun r=>κ ⟨true,r,[]⟩)
 else if o.kind=5 then zhi LW o.b o.c (fun t=>κ ⟨t,0,[]⟩)
 else if o.kind=6 then zbt LW (grT o.b) (fun r t=>κ ⟨t,r,[]⟩) f
 else if o.kind=7 then zbt LW (leT o.b) (fun r t=>κ ⟨t,r,[]⟩) f
 else if o.kind=8 then zbt LW (buT o.b o.c) (fun r t=>κ ⟨t,r,[]⟩) f
 else if o.kind=9 then zi5 LF (fun t=>κ ⟨t,0,[]⟩)
 else if o.kind=10 then zoj LF (fun t=>κ ⟨t,0,[]⟩)
 else if o.kind=11 then zfz LF (fun t=>κ ⟨t,0,[]⟩)
 else if o.kind=12 then xloadF LB (fun _ v=>κ ⟨true,v,[]⟩)
 else if o.kind=13 then zfp LB o.b (κ ⟨true,0,[]⟩)
 else if o.kind=14 then zic LB o.b (fun r=>κ ⟨true,r,[]⟩)
 else if o.kind=15 then xloadF LB (fun s v=>stepF (xcasP LB s (zbk v o.b) (fun t=>κ (if t then⟨true,zbk v o.b,[]⟩ else⟨false,0,[]⟩))))
 else κ ⟨false,0,[]⟩
section
variable{S:Type}{md:Md (SM S)}{LW:zco S Int}{LF:zco S Bool}{LB:zco S BoxS}{ib wb fb bb lo:Nat}{TW TF:Nat→Prop}{A:Nat→Prop}{w₀:W0 (SM S)}{c:Frame}{cs:List Frame}{κ:Ans→Fu (SM S)}{o:OpD}{y:md.β}{own:Nat→Owner}{w:World}{m:SM S}
theorem zqr(O:md.Ok)(PW:Part md LW (WAt wb) wb TW)(PF:Part md LF (FAt fb) fb TF)(PB:Part md LB (BAt ib bb) bb TS2)(hib:ib<65536)(f:Nat)(hlo:∀{m own w},md.Rep m own w→lo≤w.heap.size)(ho:o.Ok)(qq:md.End A w₀ c cs)
  (qu:∀r v y own w m,md.C y own A w₀ w m→LRow (.th md.i) lo own w v r.l→(∀g,v.ownBlock=some g→¬A g)→md.GO y own w (κ r m) (G (c.finish (zf9 r v)) cs) w) (C:md.C y own A w₀ w m) :
  md.GO y own w (zos LW LF LB f o κ m) (G (Frame.enter Try.prog 35 #[.agg #[gpv wb,gpv fb,gpv bb],md.sv,opV o] .normal) (c::cs)) w:=by
 obtain⟨ok,oa,ob,oc⟩:=o;unfold opV gpv;rw[enter_at _ Try.func35 rfl];simp only[Try.ntmps35,yan,yau,yav,Nat.reduceAdd,Nat.reduceSub,yao,
   yap,yaq,yar,yas,yat]
 show md.GO _ _ _ _ (G ((base 35).at _ [.code c35]) _) _;generalize qw:zos LW LF LB f ⟨ok,oa,ob,oc⟩ κ m=mc;replace qw:=yay qw;replace qu:=yay qu;obtain⟨N0,hN⟩:∃N,w.heap.size=N:=⟨_,rfl⟩;have hloN:=hlo C.rep;refine zas (c:=c35) (O.xc ..) rfl fun R0 qv=>?_;rw[show cA c35=Code.region _ _ _ from rfl]
 refine O.segA C zbc (zac zag (by kernel_rfl)) rfl (zaa Try.func35) rfl fun wp hp=>?_;have qp:wp.heap.size=N0:=by rw[hp.heap,zaw];exact hN
 replace hp:=yay hp;replace qp:=yay qp;replace hN:=yay hN;replace hloN:=yay hloN
 go_wp2_with fail
 rw[qp.out];refine fun w1 q1 q2 q3=>O.three C hp.out rfl hN.out q1 q2 q3 fun qm C1 e1 e2 e3 s1 o1 o2 o3 LL low=>?_;have hA:∀b,A b→b<N0+1:=fun b hb=>by
  have:=C.lt (by rw[(C.mine b hb).1];simp);have:=hN.out;omega
 clear q1 q2 q3 hp qp wp low;obtain rfl:=qv.out;clear qv;obtain⟨N,hNN⟩:∃N,N0+1=N:=⟨_,rfl⟩;have hN2:N0+2=N+1:=by omega
 rw[hNN] at hA e2 o2;rw[hN2] at e3 o3;replace hA:=yay hA;refine zas (c:=cB c35) (O.xc ..) rfl fun R0 qv=>?_;rw[show cA (cB c35)=Code.region _ _ _ from rfl]
 have s1':w1.heap.size=N+2:=by omega
 rw[hNN]
 try rw[hN2]
 refine O.segA C1 zbc (zac zag (by kernel_rfl)) rfl (zaa Try.func35) rfl fun wp hp=>?_;have qp:wp.heap.size=N+2:=by rw[hp.heap,zaw];exact s1'
 replace s1:Hid (w1.heap.size=N+2):=yay s1';clear s1';replace hNN:=yay hNN;replace hN2:=yay hN2;replace hp:=yay hp;replace qp:=yay qp;replace hN:=yay hN;replace hloN:=yay hloN
 go_wp2_with fail
 rw[qp.out];refine fun w4 q1 q2 q3=>O.one C1 hp.out rfl s1.out q1 q2 q3 fun own4 C4 e4 s4 o4 L4 low4=>?_;have ltT:N0<w1.heap.size:=by rw[s1.out];have:=hNN.out;omega
 have hlt0:N<w1.heap.size:=by rw[s1.out];omega
 have hlt1:N+1<w1.heap.size:=by rw[s1.out];omega
 have eT4:=(low4 N0 (by have:=hNN.out;omega)).1.trans e1;have oT4:=(low4 N0 (by have:=hNN.out;omega)).2.trans o1;have eN4:=(low4 N (by omega)).1.trans e2;have oN4:=(low4 N (by omega)).2.trans o2;have eB4:=(low4 (N+1) (by omega)).1.trans e3;have oB4:=(low4 (N+1) (by omega)).2.trans o3;have LL4:=LL.trans L4;clear q1 q2 q3 hp qp wp low4 hlt0 hlt1 ltT;obtain rfl:=qv.out;clear qv;have mkI:∀x:Nat→Value,x 1=md.sv→x 3 = .pointer (some ⟨N0,0,none⟩)→x 5 = .pointer (some ⟨N,0,none⟩)→x 6 = .pointer (some ⟨N+1,0,none⟩)→x 7 = .pointer (some ⟨N+2,0,none⟩)→zq9 md wb fb bb lo A w₀ c cs κ ⟨ok,oa,ob,oc⟩ y own4 w4 m N N0 x:=fun x z1 z3 z5 z6 z7=>⟨ho,qq,qu.out,C4,LL4,hA.out,oN4,eN4,oB4,eB4,o4,e4,oT4,eT4,z1,z3,z5,z6,z7⟩;replace mkI:=yay mkI;replace qq:=yay qq;replace ho:=yay ho;replace LL:=yay LL;replace LL4:=yay LL4;replace L4:=yay L4;replace s1:=yay s1;replace s4:=yay s4;replace e1:=yay e1;replace e2:=yay e2;replace e3:=yay e3;replace eT4:=yay eT4;replace eN4:=yay eN4;replace eB4:=yay eB4;replace e4:=yay e4;replace C1:=yay C1;have n4:Hid (∀wp:World,Sim wp (poi md.D w4)→wp.cell? ⟨N,0,none⟩=some (.int .i64 ok)):=yay fun wp hp=>by
  have g:=(za8 hp (C4.dm O (by rw[oN4];simp))).trans eN4.out;exact zab g 0
 refine zas (c:=cB (cB c35)) (O.xc ..) rfl fun R0 qv=>?_;refine zas (c:=cA (cB (cB c35))) (O.xc ..) rfl fun R1 qs=>?_;rw[show cA (cA (cB (cB c35)))=Code.region _ _ _ from rfl]
 refine O.seg0 C4 zbc (zac zag (by kernel_rfl)) rfl (zaa Try.func35) rfl fun wp hp=>?_;have k0:=n4.out wp hp;replace hp:=yay hp
 go_wp2_with fail
 refine⟨hp.out,?_⟩;clear hp k0 wp;obtain rfl:=qs.out;clear qs;rw[show cB (cA (cB (cB c35)))=Code.block _ (cA (cB (cA (cB (cB c35))))) from rfl]
 refine zce (O.xc ..) ?_;have hm:=qw.out;unfold zos at hm;dsimp only at hm;replace qw:=yay hm;clear hm;rw[zde _ rfl];refine zez (A:=cA (zcs 0)) (B:=cB (zcs 0)) (O.xc ..) (show V35 md.sv wb fb bb N N0 ok _ from⟨rfl,rfl,rfl,rfl,rfl,rfl⟩) (by decide) (by decide) (by decide) (fun k x V=>?_) fun k x V=>?_
 ·have hm:=qw.out;rw[if_pos k] at hm;obtain rfl:=qv.out;obtain rfl:=hm;exact z30 O PW (o:=⟨ok,oa,ob,oc⟩) (mkI.out _ V.x1 V.x3 V.x5 V.x6 V.x7)
 have hm:=qw.out;rw[if_neg k] at hm;replace qw:=yay hm;clear hm k;refine zez (A:=cA (zcs 1)) (B:=cB (zcs 1)) (O.xc ..) V (by decide) (by decide) (by decide) (fun k x V=>?_) fun k x V=>?_
 ·have hm:=qw.out;rw[if_pos k] at hm;obtain rfl:=qv.out;obtain rfl:=hm;exact z0l O PW (o:=⟨ok,oa,ob,oc⟩) (mkI.out _ V.x1 V.x3 V.x5 V.x6 V.x7)
 have hm:=qw.out;rw[if_neg k] at hm;replace qw:=yay hm;clear hm k;refine zez (A:=cA (zcs 2)) (B:=cB (zcs 2)) (O.xc ..) V (by decide) (by decide) (by decide) (fun k x V=>?_) fun k x V=>?_
 ·have hm:=qw.out;rw[if_pos k] at hm;obtain rfl:=qv.out;obtain rfl:=hm;exact z50 O PW (o:=⟨ok,oa,ob,oc⟩) (mkI.out _ V.x1 V.x3 V.x5 V.x6 V.x7)
 have hm:=qw.out;rw[if_neg k] at hm;replace qw:=yay hm;clear hm k;refine zez (A:=cA (zcs 3)) (B:=cB (zcs 3)) (O.xc ..) V (by decide) (by decide) (by decide) (fun k x V=>?_) fun k x V=>?_
 ·have hm:=qw.out;rw[if_pos k] at hm;obtain rfl:=qv.out;obtain rfl:=hm;exact z3y O PW (o:=⟨ok,oa,ob,oc⟩) (mkI.out _ V.x1 V.x3 V.x5 V.x6 V.x7)
 have hm:=qw.out;rw[if_neg k] at hm;replace qw:=yay hm;clear hm k;refine zez (A:=cA (zcs 4)) (B:=cB (zcs 4)) (O.xc ..) V (by decide) (by decide) (by decide) (fun k x V=>?_) fun k x V=>?_
 ·have hm:=qw.out;rw[if_pos k] at hm;obtain rfl:=qv.out;obtain rfl:=hm;exact z5z O PW (o:=⟨ok,oa,ob,oc⟩) (mkI.out _ V.x1 V.x3 V.x5 V.x6 V.x7)
 have hm:=qw.out;rw[if_neg k] at hm;replace qw:=yay hm;clear hm k;refine zez (A:=cA (zcs 5)) (B:=cB (zcs 5)) (O.xc ..) V (by decide) (by decide) (by decide) (fun k x V=>?_) fun k x V=>?_
 ·have hm:=qw.out;rw[if_pos k] at hm;obtain rfl:=qv.out;obtain rfl:=hm;exact zsg O PW f (o:=⟨ok,oa,ob,oc⟩) (mkI.out _ V.x1 V.x3 V.x5 V.x6 V.x7)
 have hm:=qw.out;rw[if_neg k] at hm;replace qw:=yay hm;clear hm k;refine zez (A:=cA (zcs 6)) (B:=cB (zcs 6)) (O.xc ..) V (by decide) (by decide) (by decide) (fun k x V=>?_) fun k x V=>?_
 ·have hm:=qw.out;rw[if_pos k] at hm;obtain rfl:=qv.out;obtain rfl:=hm;exact z0m O PW f (o:=⟨ok,oa,ob,oc⟩) (mkI.out _ V.x1 V.x3 V.x5 V.x6 V.x7)
 have hm:=qw.out;rw[if_neg k] at hm;replace qw:=yay hm;clear hm k;refine zez (A:=cA (zcs 7)) (B:=cB (zcs 7)) (O.xc ..) V (by decide) (by decide) (by decide) (fun k x V=>?_) fun k x V=>?_
 ·have hm:=qw.out;rw[if_pos k] at hm;obtain rfl:=qv.out;obtain rfl:=hm;exact z32 O PW f (o:=⟨ok,oa,ob,oc⟩) (mkI.out _ V.x1 V.x3 V.x5 V.x6 V.x7)
 have hm:=qw.out;rw[if_neg k] at hm;replace qw:=yay hm;clear hm k;refine zez (A:=cA (zcs 8)) (B:=cB (zcs 8)) (O.xc ..) V (by decide) (by decide) (by decide) (fun k x V=>?_) fun k x V=>?_
 ·have hm:=qw.out;rw[if_pos k] at hm;obtain rfl:=qv.out;obtain rfl:=hm;exact z0n O PF (o:=⟨ok,oa,ob,oc⟩) (mkI.out _ V.x1 V.x3 V.x5 V.x6 V.x7)
 have hm:=qw.out;rw[if_neg k] at hm;replace qw:=yay hm;clear hm k;refine zez (A:=cA (zcs 9)) (B:=cB (zcs 9)) (O.xc ..) V (by decide) (by decide) (by decide) (fun k x V=>?_) fun k x V=>?_
 ·have hm:=qw.out;rw[if_pos k] at hm;obtain rfl:=qv.out;obtain rfl:=hm;exact z31 O PF (o:=⟨ok,oa,ob,oc⟩) (mkI.out _ V.x1 V.x3 V.x5 V.x6 V.x7)
 have hm:=qw.out;rw[if_neg k] at hm;replace qw:=yay hm;clear hm k;refine zez (A:=cA (zcs 10)) (B:=cB (zcs 10)) (O.xc ..) V (by decide) (by decide) (by decide) (fun k x V=>?_) fun k x V=>?_
 ·have hm:=qw.out;rw[if_pos k] at hm;obtain rfl:=qv.out;obtain rfl:=hm;exact zxv O PF (o:=⟨ok,oa,ob,oc⟩) (mkI.out _ V.x1 V.x3 V.x5 V.x6 V.x7)
 have hm:=qw.out;rw[if_neg k] at hm;replace qw:=yay hm;clear hm k;refine zez (A:=cA (zcs 11)) (B:=cB (zcs 11)) (O.xc ..) V (by decide) (by decide) (by decide) (fun k x V=>?_) fun k x V=>?_
 ·have hm:=qw.out;rw[if_pos k] at hm;obtain rfl:=qv.out;obtain rfl:=hm;exact z0k O PB (o:=⟨ok,oa,ob,oc⟩) (mkI.out _ V.x1 V.x3 V.x5 V.x6 V.x7)
 have hm:=qw.out;rw[if_neg k] at hm;replace qw:=yay hm;clear hm k;refine zez (A:=cA (zcs 12)) (B:=cB (zcs 12)) (O.xc ..) V (by decide) (by decide) (by decide) (fun k x V=>?_) fun k x V=>?_
 ·have hm:=qw.out;rw[if_pos k] at hm;obtain rfl:=qv.out;obtain rfl:=hm;exact zxu O PB hib (o:=⟨ok,oa,ob,oc⟩) (mkI.out _ V.x1 V.x3 V.x5 V.x6 V.x7)
 have hm:=qw.out;rw[if_neg k] at hm;replace qw:=yay hm;clear hm k;refine zez (A:=cA (zcs 13)) (B:=cB (zcs 13)) (O.xc ..) V (by decide) (by decide) (by decide) (fun k x V=>?_) fun k x V=>?_
 ·have hm:=qw.out;rw[if_pos k] at hm;obtain rfl:=qv.out;obtain rfl:=hm;exact z0j O PB hib (o:=⟨ok,oa,ob,oc⟩) (mkI.out _ V.x1 V.x3 V.x5 V.x6 V.x7)
 have hm:=qw.out;rw[if_neg k] at hm;replace qw:=yay hm;clear hm k;refine zez (A:=cA (zcs 14)) (B:=cB (zcs 14)) (O.xc ..) V (by decide) (by decide) (by decide) (fun k x V=>?_) fun k x V=>?_
 ·have hm:=qw.out;rw[if_pos k] at hm;obtain rfl:=qv.out;obtain rfl:=hm;exact zxw O PB hib (o:=⟨ok,oa,ob,oc⟩) (mkI.out _ V.x1 V.x3 V.x5 V.x6 V.x7)
 have hm:=qw.out;rw[if_neg k] at hm;replace qw:=yay hm;clear hm k;obtain rfl:=qv.out;obtain rfl:=qw.out;exact z3z O C4 LL4.out hA.out oB4 eB4.out V.x6 (qu.out ⟨false,0,[]⟩)
end
end Go.Proofs.Ytofacoojpgkbiaa
