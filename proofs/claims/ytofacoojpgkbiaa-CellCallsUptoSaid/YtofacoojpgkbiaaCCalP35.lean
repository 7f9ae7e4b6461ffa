/- Part of a proof. No condition. -/
import Derived.Test.YtofacoojpgkbiaaCCalP34
import Derived.Test.YtofacoojpgkbiaaCCalP33
set_option linter.unusedVariables false
set_option maxHeartbeats 8000000
set_option linter.unusedSimpArgs false
namespace Go.Proofs.Ytofacoojpgkbiaa
open Go.Conc Go.RowKit
open Go.ConcN (upd upd_ne upd_same)
set_option maxRecDepth 100000
theorem zd6(b:Nat)(v:Bool)(w:World)(hc:w.cell? ⟨b,0,none⟩=some (.int .u32 (bit v))):Calls Try.prog 36 #[.pointer (some ⟨b,0,none⟩)] w fun e w'=>e = .returned (.bool v)∧w=w':=by
 have hl:=fun d=>zot b 0 v (w.drewN d) hc;have h0:=zot b 0 v w hc;have hne:∀w:World,(binOp .neq 75 (.pointer (some ⟨b,0,none⟩)) (.pointer none)).run Try.prog w = .ok (.bool true) w:=fun w=>by rfl
 clear hc;go_enter Try.func36,Try.ntmps36
 go_wp2_with (go_at_call 104;refine h0.mono ?_;rintro e w' ⟨rfl,rfl⟩)
 go_ret
 exact⟨rfl,rfl⟩
theorem zd2(b:Nat)(v:Int)(w:World)(hc:w.cell? ⟨b,0,none⟩=some (.int .i64 v)):Calls Try.prog 37 #[.pointer (some ⟨b,0,none⟩)] w fun e w'=>e = .returned (.int .i64 v)∧w=w':=by
 have h0:=zss b 0 v w hc;have hne:∀w:World,(binOp .eql 73 (.pointer (some ⟨b,0,none⟩)) (.pointer none)).run Try.prog w = .ok (.bool false) w:=fun w=>by rfl
 clear hc;go_enter Try.func37,Try.ntmps37
 go_wp2_with (go_at_call 87;refine h0.mono ?_;rintro e w' ⟨rfl,rfl⟩)
 go_ret
 exact⟨rfl,rfl⟩
theorem zf4(b:Nat){p:Option Addr}{v:Int}(w:World)(hc:w.cell? ⟨b,0,none⟩=some (.pointer p))(hk:KeptI w p v):Calls Try.prog 38 #[.pointer (some ⟨b,0,none⟩)] w fun e w'=>e = .returned (.int .i64 v)∧w=w':=by
 have h0:=ptrLoadI b 0 w hc hk;have h1:=valueI_walk w hk;have hne:∀w:World,(binOp .eql 77 (.pointer (some ⟨b,0,none⟩)) (.pointer none)).run Try.prog w = .ok (.bool false) w:=fun w=>by rfl
 clear hc hk;go_enter Try.func38,Try.ntmps38
 go_wp2_with (first|(go_at_call 106;refine h0.mono ?_;rintro e w' ⟨rfl,rfl⟩)|(go_at_call 105;refine h1.mono ?_;rintro e w' ⟨rfl,rfl⟩))
 go_ret
 exact⟨rfl,rfl⟩
theorem zkd(a b:List Int):zdw (a++b)=zdw a++zdw b:=by simp[zdw]
theorem zpz(w:World)(x y z:Int):zml (w.alloc (.cells #[.int .i64 x,.int .i64 y,.int .i64 z] 2)) (.slice (some ⟨w.heap.size,0,none⟩) 3 3) 3 [.int .i64 x,.int .i64 y,.int .i64 z]:=by
 have hc:=heap_alloc_new w (.cells #[.int .i64 x,.int .i64 y,.int .i64 z] 2);refine⟨rfl,by intro u hu;simp at hu;rcases hu with rfl|rfl|rfl<;>rfl,.inr ⟨_,3,rfl,fun j u hj=>?_⟩⟩;have e:(⟨w.heap.size,0,none⟩:Addr).add j=⟨w.heap.size,j,none⟩:=by simp[Addr.add];try(intro h;exact h.symm)
 rw[e,zab hc j]
 simpa using hj
theorem zrr{L:CL}{s:za7}{own:Nat→Owner}{P:Nat}{w:World}(hC:zb3 L s own w)(hP:PlAt P L own w) :
  Calls Try.prog 97 #[gpv P] w fun e w'=>∃v,e = .returned v∧w'.ownsRow w.heap.size 2 1 v (3*L.n) (zdw (zj0 L.n s.W s.F s.B))∧Below w.heap.size w w':=by
 obtain⟨i1,hi1,hz1,hz11,hz12⟩:=info_parts z07;obtain⟨_,vw,vf,vb,hPl,⟨aw,cw,rfl,_,hrw⟩,⟨af,cf,rfl,_,hrf⟩,⟨ab,cb,rfl,_,hrb⟩⟩:=hP;obtain⟨n,hn⟩:∃n,L.n=n:=⟨_,rfl⟩;have hn6:=hC.n;rw[hn] at hPl hrw hrf hrb hn6⊢;obtain⟨N,hN⟩:∃N,w.heap.size=N:=⟨_,rfl⟩;have lt:∀{b:Nat} {o:Obj},w.heap[b]?=some o→b<N:=fun{b o} e=>by rw[←hN];exact(yah.1 e).1
 have facts:Hid (∀wr,Below N w wr→∀j,j<n→∃rw_ rf_ rb_ p,aw=some ⟨rw_,0,none⟩∧af=some ⟨rf_,0,none⟩∧ab=some ⟨rb_,0,none⟩∧wr.cell? ⟨rw_,j,none⟩=some (gpv (L.wb j))∧wr.cell? ⟨rf_,j,none⟩=some (gpv (L.fb j))∧wr.cell? ⟨rb_,j,none⟩=some (gpv (L.bb j)) ∧
   wr.cell? ⟨L.wb j,0,none⟩=some (.int .i64 (s.W j))∧wr.cell? ⟨L.fb j,0,none⟩=some (.int .u32 (bit (s.F j)))∧wr.cell? ⟨L.bb j,0,none⟩=some (.pointer p)∧KeptI wr p (s.B j)):=yay fun wr hb j hj=>by
  obtain⟨rw_,rwc,e1,_,ew,cw'⟩:=hrw (by omega);obtain⟨rf_,rfc,e2,_,ef,cf'⟩:=hrf (by omega);obtain⟨rb_,rbc,e3,_,eb,cb'⟩:=hrb (by omega);have hjL:j<L.n:=by omega
  have aW:=(hC.wo j hjL).at_;have aF:=(hC.fl j hjL).at_;obtain⟨p,aB,hH⟩:=(hC.bo j hjL).cell;have k:∀{b:Nat} {o:Obj},w.heap[b]?=some o→wr.heap[b]?=some o:=fun{b o} e=>(hb.block b (lt e)).trans e;refine⟨rw_,rf_,rb_,p,e1,e2,e3,(zab (k ew) j).trans (cw' j hj),(zab (k ef) j).trans (cf' j hj),(zab (k eb) j).trans (cb' j hj),zab (k aW) 0,zab (k aF) 0,zab (k aB) 0,?_⟩;rcases hH with⟨_,⟨_,h1,h2⟩|⟨_,kb,h1,_,h2⟩⟩
  ·exact .inl ⟨h2,h1⟩
  ·exact .inr ⟨kb,h1,k h2⟩
 have fP:Hid (∀wr,Below N w wr→wr.cell? ⟨P,0,none⟩=some (.slice aw n cw)∧wr.cell? ⟨P,1,none⟩=some (.slice af n cf)∧wr.cell? ⟨P,2,none⟩=some (.slice ab n cb)):=yay fun wr hb=>by
  have g:=(hb.block _ (lt hPl)).trans hPl;exact⟨zab g 0,zab g 1,zab g 2⟩
 have hneF:∀w:World,True:=fun _=>trivial;clear hC hrw hrf hrb lt hPl hneF;obtain⟨p0,_,_⟩:=fP.out w (Below.refl _ _);rw[hN];replace hN:=yay hN;replace hn:=yay hn;unfold gpv;go_enter Try.func97,Try.ntmps97
 go_wp2_with fail
 clear p0
 go_loopw [3,12] (fun va iv wr=>∃(j:Nat),j≤n∧iv = .int .i64 j∧Hid (wr.ownsRow N 2 1 va (3*j) (zdw (zj0 j s.W s.F s.B)))∧Hid (Below N w wr)) (fun _ iv _=>n - (intOf iv).toNat)
 case atStart=>exact⟨0,by omega,rfl,yay (World.ownsRow_nil _ _ _ _),yay (Below.refl _ _)⟩
 case round =>
  obtain⟨j,hj,rfl,HS,HB⟩:=hrel;obtain⟨vp,vc,rfl⟩:=zbe HS.out;by_cases hlt2:j<n
  ·have hlt':(j:Int)<(n:Int):=by omega
   have hj0:(0:Int)≤(j:Int):=by omega
   have e1:IntKind.i64.wrap ((j:Int)+1)=((j+1:Nat):Int):=by rw[IntKind.wrap_i64];omega
   obtain⟨rw_,rf_,rb_,p,rfl,rfl,rfl,r0,r1,r2,q0,q1,q2,q3⟩:=facts.out wr HB.out j hlt2;obtain⟨p0,p1,p2⟩:=fP.out wr HB.out;have HVF:=yay (zd6 _ _ wr q1);have HVW:=yay (zd2 _ _ wr.drew q0);have HVB:=yay (zf4 _ wr.drew q2 (show KeptI wr.drew p (s.B j) from q3))
   clear q0 q1 q2 q3;have qp:=yay (hN.out▸HB.out.size);have hcs:=yay (zfn j s.W s.F s.B);generalize hWv:s.W j=xW at *;generalize hFv:s.F j=xF at *;generalize hBv:s.B j=xB at *;replace hWv:=yay hWv;replace hFv:=yay hFv;replace hBv:=yay hBv;obtain⟨M,hM⟩:∃M,wr.heap.size=M:=⟨_,rfl⟩;have HSx:=zpz wr.drew xW (bit xF) xB;rw[show wr.drew.heap.size=M from hM] at HSx
   have HO1:=(show wr.drew.ownsRow N 2 1 _ (3*j) _ from HS.out).alloc (.cells #[.int .i64 xW,.int .i64 (bit xF),.int .i64 xB] 2)
   have HBa:=HB.out.drew.alloc qp.out (.cells #[.int .i64 xW,.int .i64 (bit xF),.int .i64 xB] 2);obtain⟨v',w2,hrun,ha⟩:=zb0 (P:=Try.prog) (wr.drew.alloc (.cells #[.int .i64 xW,.int .i64 (bit xF),.int .i64 xB] 2)) N 22 22 2 i1 _ _ Try.underlying22 hi1 hz1 hz11 hz12 rfl (.slice vp (3*j) vc) (3*j) _ HO1 (.slice (some ⟨M,0,none⟩) 3 3) 3 _ HSx (by unfold maxLen;omega) (by omega) (by have:=qp.out;simp;omega);obtain⟨p',c',rfl⟩:=zbe ha.1;have HRUN:Hid ((Builtin.append_ #[22,22] 22 #[.slice vp (3*j) vc,.slice (some ⟨M,0,none⟩) 3 3]).run Try.prog (wr.drew.alloc (.cells #[.int .i64 xW,.int .i64 (bit xF),.int .i64 xB] 2)) = .ok (.slice p' (3*j+3) c') w2):=yay hrun;have HNX:Hid (w2.ownsRow N 2 1 (.slice p' (3*(j+1)) c') (3*(j+1)) (zdw (zj0 (j+1) s.W s.F s.B))∧Below N w w2):=yay ⟨by
    have:=ha.1;rw[hcs.out,show 3*(j+1)=3*j+3 by omega,zkd];exact this,zd1 HO1 HBa (by have:=qp.out;simp;omega) ha.2.1⟩
   replace hM:=yay hM;clear hrun ha HSx HO1 HBa;unfold gpv at r0 r1 r2;cases xF with
   | false =>
    rw[show bit false=0 from rfl] at HRUN
    go_upto_region 8 with(go_at_call 36;refine HVF.out.mono ?_;rintro e w' ⟨rfl,rfl⟩)
    clear HVF;have hM':=hM.out
    go_region_law (first
     | (refine za1 (by rfl) _ _ 22 22 (by rfl) (.slice vp (3*j) vc) (.slice (some ⟨M,0,none⟩) 3 3) (by rfl) (by rfl) HRUN.out ?_)
     | (go_simp;go_wp2_with (first|(go_at_call 37;refine HVW.out.mono ?_;rintro e w' ⟨rfl,rfl⟩)|(go_at_call 38;refine HVB.out.mono ?_;rintro e w' ⟨rfl,rfl⟩))))
    all_goals go_wp2_with fail
    all_goals exact⟨⟨j+1,by omega,by rw[Int.natCast_add];rfl,yay HNX.out.1,yay HNX.out.2⟩,by simp[intOf];omega⟩
   | true =>
    rw[show bit true=1 from rfl] at HRUN
    go_upto_region 8 with(go_at_call 36;refine HVF.out.mono ?_;rintro e w' ⟨rfl,rfl⟩)
    clear HVF;have hM':=hM.out
    go_region_law (first
     | (refine za1 (by rfl) _ _ 22 22 (by rfl) (.slice vp (3*j) vc) (.slice (some ⟨M,0,none⟩) 3 3) (by rfl) (by rfl) HRUN.out ?_)
     | (go_simp;go_wp2_with (first|(go_at_call 37;refine HVW.out.mono ?_;rintro e w' ⟨rfl,rfl⟩)|(go_at_call 38;refine HVB.out.mono ?_;rintro e w' ⟨rfl,rfl⟩))))
    all_goals go_wp2_with fail
    all_goals exact⟨⟨j+1,by omega,by rw[Int.natCast_add];rfl,yay HNX.out.1,yay HNX.out.2⟩,by simp[intOf];omega⟩
  ·have hlt':¬(j:Int)<(n:Int):=by omega
   obtain rfl:j=n:=by omega
   go_wp2_with fail
   go_ret
   exact⟨_,rfl,HS.out,HB.out⟩
theorem z5b:(Try.prog.info? 73).map (fun i=>(i.zero,i.size,i.bytes))=some (some (.pointer none),1,8):=by kernel_rfl
theorem z5a:(Try.prog.info? 75).map (fun i=>(i.zero,i.size,i.bytes))=some (some (.pointer none),1,8):=by kernel_rfl
theorem z49:(Try.prog.info? 77).map (fun i=>(i.zero,i.size,i.bytes))=some (some (.pointer none),1,8):=by kernel_rfl
theorem zrs(w:World)(b:Nat)(t:TypeId):zml (w.alloc (.cells #[gpv b] t)) (.slice (some ⟨w.heap.size,0,none⟩) 1 1) 1 [gpv b] :=
 ⟨rfl,by intro u hu;simp at hu;subst hu;rfl,.inr ⟨_,1,rfl,fun j u hj=>by
  rcases j with _|j
  ·simp at hj;subst hj;have e:(⟨w.heap.size,0,none⟩:Addr).add 0=⟨w.heap.size,0,none⟩:=rfl;rw[e,zab (heap_alloc_new w (.cells #[gpv b] t)) 0];rfl
  ·simp at hj⟩⟩
def z6c(l:List Int)(w:World)(e:Ending)(w':World):Prop :=
 ∃wb fb bb kb vw vf vb,e = .returned (gpv w.heap.size)∧MkM w w.heap.size l (min l.length 65536) (min l.length 65536) (min l.length 65536) wb fb bb kb vw vf vb w'
theorem zwz{vs:Value}{l:List Int}{w:World}(hS:IntsIn w vs l)(qo:l.length≤4611686018427387904):Calls Try.prog 95 #[vs] w (z6c l w):=by
 obtain⟨i1,hi1,hz1,hz11,hz12⟩:=info_parts z5b;obtain⟨i2,hi2,hz2,hz21,hz22⟩:=info_parts z5a;obtain⟨i3,hi3,hz3,hz31,hz32⟩:=info_parts z49;obtain⟨hI,a,cap,rfl,hcap,hcell⟩:=hS;unfold z6c;obtain⟨n,hn⟩:∃n,l.length=n:=⟨_,rfl⟩;obtain⟨k,hk⟩:∃k,min n 65536=k:=⟨_,rfl⟩;rw[hn] at hcap qo⊢;rw[hk];have hk2:min (n:Int) 65536=k:=by omega
 have hk3:k≤n:=by omega
 have hk4:k≤65536:=by omega
 have hkc:(k:Int)≤(cap:Int):=by omega
 have hk0:(0:Int)≤(k:Int):=by omega
 obtain⟨N,hN⟩:∃N,w.heap.size=N:=⟨_,rfl⟩;have H0:Hid (MkM w N l 0 0 0 (fun _=>0) (fun _=>0) (fun _=>0) (fun _=>0) (.slice none 0 0) (.slice none 0 0) (.slice none 0 0) (w.alloc (.cells #[.slice none 0 0,.slice none 0 0,.slice none 0 0] 256))) :=
  yay ⟨by rw[←hN];exact heap_alloc_new _ _,World.ownsRow_nil _ _ _ _,World.ownsRow_nil _ _ _ _,World.ownsRow_nil _ _ _ _,fun i hi=>absurd hi (Nat.not_lt_zero _),fun i hi=>absurd hi (Nat.not_lt_zero _),fun i hi=>absurd hi (Nat.not_lt_zero _),fun i _ hi=>absurd hi (Nat.not_lt_zero _),fun i _ hi=>absurd hi (Nat.not_lt_zero _),fun i _ hi=>absurd hi (Nat.not_lt_zero _),fun i _ hi=>absurd hi (Nat.not_lt_zero _),by rw[←hN];exact(Below.refl _ _).alloc (yax _) _,by simp;omega⟩
 rw[hN];replace hN:=yay hN;replace hcell:=yay hcell;replace hI:=yay hI;replace hn:=yay hn;replace hk:=yay hk;go_enter Try.func95,Try.ntmps95
 go_wp2_with (refine znp rfl _ _ _ _ rfl n 65536 k rfl rfl hk2 ?_)
 rw[hN.out]
 go_loopw [14] (fun iv wr=>∃(j:Nat) (wb fb bb kb:Nat→Nat) (vw vf vb:Value),j≤k∧iv = .int .i64 j∧Hid (MkM w N l j j j wb fb bb kb vw vf vb wr)) (fun iv _=>k - (intOf iv).toNat)
 case atStart=>exact⟨0,_,_,_,_,_,_,_,by omega,rfl,H0⟩
 case round =>
  obtain⟨j,wb,fb,bb,kb,vw,vf,vb,hj,rfl,HM⟩:=hrel;by_cases qr:j<k
  ·have hlt':(j:Int)<(k:Int):=by omega
   have hj0:(0:Int)≤(j:Int):=by omega
   have e1:IntKind.i64.wrap ((j:Int)+1)=((j+1:Nat):Int):=by rw[IntKind.wrap_i64];omega
   obtain⟨x,hx⟩:∃x,l[j]?=some x:=⟨_,List.getElem?_eq_getElem (by rw[hn.out];omega)⟩;have hxg:l.getD j 0=x:=by rw[List.getD_eq_getElem?_getD,hx];rfl
   obtain⟨b,off,rfl,hcl⟩:=hcell.out (by intro z;rw[z] at hx;simp at hx);have c0:=hcl j x hx;have cx:wr.cell? ⟨b,off+j,none⟩=some (.int .i64 x):=(World.cell?_of_block (w:=w) (HM.out.low.block _ (by rw[←hN.out];exact World.block_lt_of_cell? w _ c0))).trans c0;clear hcl c0;replace hx:=yay hx;replace hxg:=yay hxg;go_upto_region 5 with fail
   clear cx;obtain⟨vp,vc,rfl⟩:=zbe HM.out.rw_;obtain⟨W,hW⟩:∃W,wr.heap.size=W:=⟨_,rfl⟩;have hNW:=HM.out.lt;have H1:=HM.out.drew;have H1:=H1.alloc (.cells #[.int .i64 x] 102);have e0:(wr.drew.alloc (.cells #[.int .i64 x] 102)).heap.size=W+1:=by simp;omega
   have a1:(wr.drew.alloc (.cells #[.int .i64 x] 102)).heap[W]?=some (.cells #[.int .i64 x] 102 (0,0)):=by
    rw[←hW];exact heap_alloc_new wr.drew _
   have H2:=H1.alloc (.cells #[gpv W] 73);have HSX:=zrs (wr.drew.alloc (.cells #[.int .i64 x] 102)) W 73;rw[e0] at HSX;have al:∀{a:Addr} {v:Value} (w1:World) (o:Obj),w1.cell? a=some v→(w1.alloc o).cell? a=some v:=fun{a v} w1 o hv=>(World.cell?_of_block (w:=w1) (Below.heap_alloc _ _ _ (World.block_lt_of_cell? w1 _ hv))).trans hv;have m0:=zab HM.out.pl 0;simp only[yac,yaa,yab] at m0;have m1:=al wr (.cells #[.int .i64 x] 102) m0;have m2:=al (wr.alloc (.cells #[.int .i64 x] 102)) (.cells #[gpv W] 73) m1;clear al;obtain⟨v',w2,hrun,ha⟩:=zb0 (P:=Try.prog) ((wr.drew.alloc (.cells #[.int .i64 x] 102)).alloc (.cells #[gpv W] 73)) N 252 252 73 i1 _ 8 Try.underlying252 hi1 hz1 hz11 hz12 rfl (.slice vp j vc) j _ H2.rw_ (.slice (some ⟨W+1,0,none⟩) 1 1) 1 [gpv W] HSX (by unfold maxLen;omega) (by omega) (by have:=H2.lt;omega);obtain⟨p',c',rfl⟩:=zbe ha.1;obtain⟨hmb,HR⟩:=H2.word ((Below.heap_alloc _ _ _ (by rw[e0];omega)).trans (by rw[hxg.out];exact a1)) (by omega) (fun i hi z=>(by have:=(yah.1 (HM.out.wo i hi).2).1;omega)) ha;have d0:w2.cell? ⟨N,0,none⟩=some (.slice vp j vc):=by
    rw[zab (hmb.trans H2.pl) 0];rfl
   have f0:=zam (hmb.trans H2.pl) 0;have HRUN:Hid ((Builtin.append_ #[252,252] 252 #[.slice vp j vc,.slice (some ⟨W+1,0,none⟩) 1 1]).run Try.prog ((wr.drew.alloc (.cells #[.int .i64 x] 102)).alloc (.cells #[gpv W] 73)) = .ok (.slice p' (j+1) c') w2):=yay hrun;replace HR:=yay HR;replace hW:=yay hW;replace HM:=yay HM;clear hrun ha HSX H1 H2 a1 e0 hmb hNW
   go_cut [18] (fun v wx=>wx=w2.setCell ⟨N,0,none⟩ (.slice p' (j+1) c'))
   case first =>
    unfold gpv at *;have hW':=hW.out
    go_region_law (first
     | (refine za1 (by rfl) _ _ 252 252 (by rfl) (.slice vp j vc) (.slice (some ⟨W+1,0,none⟩) 1 1) (by rfl) (by rfl) HRUN.out ?_)
     | (go_simp;go_wp2_with (go_at_call 32;refine(zgs _ _).mono ?_;rintro e w' ⟨rfl,rfl⟩)))
    all_goals (go_wp2_with fail;go_meet)
    all_goals rfl
   case rest =>
   subst hcut;clear HRUN d0 f0 m0 m1 m2 hW HM;generalize w2.setCell ⟨N,0,none⟩ (.slice p' (j+1) c')=wr at *;have HM:=HR;clear HR;go_upto_region 6 with fail
   obtain⟨vp,vc,rfl⟩:=zbe HM.out.rf_;obtain⟨W,hW⟩:∃W,wr.heap.size=W:=⟨_,rfl⟩;have hNW:=HM.out.lt;have H1:=HM.out.drew;have H1:=H1.alloc (.cells #[.int .u32 (bit false)] 107);have H1:=H1.drew;have e0:(wr.drew.alloc (.cells #[.int .u32 (bit false)] 107)).drew.heap.size=W+1:=by simp;omega
   have a1:(wr.drew.alloc (.cells #[.int .u32 (bit false)] 107)).drew.heap[W]?=some (.cells #[.int .u32 (bit false)] 107 (0,0)):=by
    rw[←hW];exact heap_alloc_new wr.drew _
   have H2:=H1.alloc (.cells #[gpv W] 75);have HSX:=zrs (wr.drew.alloc (.cells #[.int .u32 (bit false)] 107)).drew W 75;rw[e0] at HSX;have al:∀{a:Addr} {v:Value} (w1:World) (o:Obj),w1.cell? a=some v→(w1.alloc o).cell? a=some v:=fun{a v} w1 o hv=>(World.cell?_of_block (w:=w1) (Below.heap_alloc _ _ _ (World.block_lt_of_cell? w1 _ hv))).trans hv;have m0:=zab HM.out.pl 1;simp only[yac,yaa,yab] at m0;have m1:=al wr (.cells #[.int .u32 (bit false)] 107) m0;have m2:=al (wr.alloc (.cells #[.int .u32 (bit false)] 107)) (.cells #[gpv W] 75) m1;clear al;obtain⟨v',w2,hrun,ha⟩:=zb0 (P:=Try.prog) ((wr.drew.alloc (.cells #[.int .u32 (bit false)] 107)).drew.alloc (.cells #[gpv W] 75)) N 253 253 75 i2 _ 8 Try.underlying253 hi2 hz2 hz21 hz22 rfl (.slice vp j vc) j _ H2.rf_ (.slice (some ⟨W+1,0,none⟩) 1 1) 1 [gpv W] HSX (by unfold maxLen;omega) (by omega) (by have:=H2.lt;omega);obtain⟨p',c',rfl⟩:=zbe ha.1;obtain⟨hmb,HR⟩:=H2.flag ((Below.heap_alloc _ _ _ (by rw[e0];omega)).trans a1) (by omega) (fun i hi z=>(by have:=(yah.1 (HM.out.fl i hi).2).1;omega)) ha;have d0:w2.cell? ⟨N,1,none⟩=some (.slice vp j vc):=by
    rw[zab (hmb.trans H2.pl) 1];rfl
   have f0:=zam (hmb.trans H2.pl) 1;have HRUN:Hid ((Builtin.append_ #[253,253] 253 #[.slice vp j vc,.slice (some ⟨W+1,0,none⟩) 1 1]).run Try.prog ((wr.drew.alloc (.cells #[.int .u32 (bit false)] 107)).drew.alloc (.cells #[gpv W] 75)) = .ok (.slice p' (j+1) c') w2):=yay hrun;replace HR:=yay HR;replace hW:=yay hW;replace HM:=yay HM;clear hrun ha HSX H1 H2 a1 e0 hmb hNW
   go_cut [29] (fun v wx=>wx=w2.setCell ⟨N,1,none⟩ (.slice p' (j+1) c'))
   case first =>
    unfold gpv at *;have hW':=hW.out
    go_region_law (first
     | (refine za1 (by rfl) _ _ 253 253 (by rfl) (.slice vp j vc) (.slice (some ⟨W+1,0,none⟩) 1 1) (by rfl) (by rfl) HRUN.out ?_)
     | (go_simp;go_wp2_with (go_at_call 33;refine(zka _ _).mono ?_;rintro e w' ⟨rfl,rfl⟩)))
    all_goals (go_wp2_with fail;go_meet)
    all_goals rfl
   case rest =>
   subst hcut;clear HRUN d0 f0 m0 m1 m2 hW HM;generalize w2.setCell ⟨N,1,none⟩ (.slice p' (j+1) c')=wr at *;have HM:=HR;clear HR;go_upto_region 7 with fail
   obtain⟨vp,vc,rfl⟩:=zbe HM.out.rb_;obtain⟨W,hW⟩:∃W,wr.heap.size=W:=⟨_,rfl⟩;have hNW:=HM.out.lt;have H1:=HM.out.drew;have H1:=H1.alloc (.cells #[.pointer (some ⟨W+1,0,none⟩)] 113);have H1:=H1.alloc (.cells #[.int .i64 x,.int .i64 0] 184);have e0:((wr.drew.alloc (.cells #[.pointer (some ⟨W+1,0,none⟩)] 113)).alloc (.cells #[.int .i64 x,.int .i64 0] 184)).heap.size=W+2:=by simp;omega
   have a1:((wr.drew.alloc (.cells #[.pointer (some ⟨W+1,0,none⟩)] 113)).alloc (.cells #[.int .i64 x,.int .i64 0] 184)).heap[W]?=some (.cells #[.pointer (some ⟨W+1,0,none⟩)] 113 (0,0)):=by
    rw[←hW];exact(Below.heap_alloc _ _ _ (by simp)).trans (heap_alloc_new wr.drew _)
   have a2:((wr.drew.alloc (.cells #[.pointer (some ⟨W+1,0,none⟩)] 113)).alloc (.cells #[.int .i64 x,.int .i64 0] 184)).heap[W+1]?=some (.cells #[.int .i64 x,.int .i64 0] 184 (0,0)):=by
    have:=heap_alloc_new (wr.drew.alloc (.cells #[.pointer (some ⟨W+1,0,none⟩)] 113)) (.cells #[.int .i64 x,.int .i64 0] 184);rw[show(wr.drew.alloc (.cells #[.pointer (some ⟨W+1,0,none⟩)] 113)).heap.size=W+1 by simp;omega] at this;exact this
   have H2:=H1.alloc (.cells #[gpv W] 77);have HSX:=zrs ((wr.drew.alloc (.cells #[.pointer (some ⟨W+1,0,none⟩)] 113)).alloc (.cells #[.int .i64 x,.int .i64 0] 184)) W 77;rw[e0] at HSX;have al:∀{a:Addr} {v:Value} (w1:World) (o:Obj),w1.cell? a=some v→(w1.alloc o).cell? a=some v:=fun{a v} w1 o hv=>(World.cell?_of_block (w:=w1) (Below.heap_alloc _ _ _ (World.block_lt_of_cell? w1 _ hv))).trans hv;have m0:=zab HM.out.pl 2;simp only[yac,yaa,yab] at m0;have m1:=al wr (.cells #[.pointer (some ⟨W+1,0,none⟩)] 113) m0;have m2:=al (wr.alloc (.cells #[.pointer (some ⟨W+1,0,none⟩)] 113)) (.cells #[.int .i64 x,.int .i64 0] 184) m1;have m3:=al ((wr.alloc (.cells #[.pointer (some ⟨W+1,0,none⟩)] 113)).alloc (.cells #[.int .i64 x,.int .i64 0] 184)) (.cells #[gpv W] 77) m2;clear al;obtain⟨v',w2,hrun,ha⟩:=zb0 (P:=Try.prog) (((wr.drew.alloc (.cells #[.pointer (some ⟨W+1,0,none⟩)] 113)).alloc (.cells #[.int .i64 x,.int .i64 0] 184)).alloc (.cells #[gpv W] 77)) N 254 254 77 i3 _ 8 Try.underlying254 hi3 hz3 hz31 hz32 rfl (.slice vp j vc) j _ H2.rb_ (.slice (some ⟨W+2,0,none⟩) 1 1) 1 [gpv W] HSX (by unfold maxLen;omega) (by omega) (by have:=H2.lt;omega);obtain⟨p',c',rfl⟩:=zbe ha.1;obtain⟨hmb,HR⟩:=H2.box ((Below.heap_alloc _ _ _ (by rw[e0];omega)).trans a1) ((Below.heap_alloc _ _ _ (by rw[e0];omega)).trans (by rw[hxg.out];exact a2)) (by omega) (fun i hi z=>(by have:=(yah.1 (HM.out.bo i hi).2.2.2).1;omega)) (by omega) (fun i hi z=>(by have:=(yah.1 (HM.out.bo i hi).2.1).1;omega)) ha;have d0:w2.cell? ⟨N,2,none⟩=some (.slice vp j vc):=by
    rw[zab (hmb.trans H2.pl) 2];rfl
   have f0:=zam (hmb.trans H2.pl) 2;have HRUN:Hid ((Builtin.append_ #[254,254] 254 #[.slice vp j vc,.slice (some ⟨W+2,0,none⟩) 1 1]).run Try.prog (((wr.drew.alloc (.cells #[.pointer (some ⟨W+1,0,none⟩)] 113)).alloc (.cells #[.int .i64 x,.int .i64 0] 184)).alloc (.cells #[gpv W] 77)) = .ok (.slice p' (j+1) c') w2):=yay hrun;replace HR:=yay HR;replace hW:=yay hW;replace HM:=yay HM;clear hrun ha HSX H1 H2 a1 a2 e0 hmb hNW;have HNX:Hid (MkM w N l (j+1) (j+1) (j+1) _ _ _ _ _ _ (.slice p' (j+1) c') (w2.setCell ⟨N,2,none⟩ (.slice p' (j+1) c'))):=HR;clear HR;unfold gpv at *;have hW':=hW.out
   go_region_law (first
    | (refine za1 (by rfl) _ _ 254 254 (by rfl) (.slice vp j vc) (.slice (some ⟨W+2,0,none⟩) 1 1) (by rfl) (by rfl) HRUN.out ?_)
    | (go_simp;go_wp2_with (go_at_call 34;refine(zlv _ _).mono ?_;rintro e w' ⟨rfl,rfl⟩)))
   all_goals go_wp2_with fail
   all_goals exact⟨⟨j+1,_,_,_,_,_,_,_,by omega,by rw[Int.natCast_add];rfl,HNX⟩,by simp[intOf];omega⟩
  ·have hlt':¬(j:Int)<(k:Int):=by omega
   obtain rfl:j=k:=by omega
   go_wp2_with fail
   go_ret
   exact⟨rfl,wb,fb,bb,kb,vw,vf,vb,HM.out⟩
def stC(l:List Int):za7:=⟨fun i=>l.getD i 0,fun _=>false,fun i=>l.getD i 0,fun _=>1,1⟩
open Classical in
noncomputable def ziz(n N hi:Nat)(wb fb bb kb:Nat→Nat):Nat→Owner:=fun b =>
 if ∃i,i<n∧(b=wb i∨b=fb i∨b=bb i) then .sh else if h:∃i,i<n∧b=kb i then .tag (zhj (Classical.choose h) 1+2) else if N≤b∧b<hi then .tag 1 else .out
section
variable{n N hi:Nat}{wb fb bb kb:Nat→Nat}
theorem zn9{b:Nat}(h:∃i,i<n∧(b=wb i∨b=fb i∨b=bb i)):ziz n N hi wb fb bb kb b = .sh:=by unfold ziz;rw[if_pos h]
open Classical in
theorem zzj{i:Nat}(hi':i<n)(h:¬∃j,j<n∧(kb i=wb j∨kb i=fb j∨kb i=bb j))(hk:∀i j,i<n→j<n→kb i=kb j→i=j):ziz n N hi wb fb bb kb (kb i) = .tag (zhj i 1+2):=by
 have hx:∃j,j<n∧kb i=kb j:=⟨i,hi',rfl⟩;unfold ziz;rw[if_neg h,dif_pos hx];have:=Classical.choose_spec hx;rw[←hk i _ hi' this.1 this.2]
theorem zs5{b:Nat}(h:¬∃i,i<n∧(b=wb i∨b=fb i∨b=bb i))(h2:¬∃i,i<n∧b=kb i)(h3:N≤b∧b<hi):ziz n N hi wb fb bb kb b = .tag 1:=by
 unfold ziz;rw[if_neg h,dif_neg h2,if_pos h3]
theorem zp9{b:Nat}(h:¬∃i,i<n∧(b=wb i∨b=fb i∨b=bb i))(h2:¬∃i,i<n∧b=kb i)(h3:¬(N≤b∧b<hi)):ziz n N hi wb fb bb kb b = .out:=by
 unfold ziz;rw[if_neg h,dif_neg h2,if_neg h3]
open Classical in
theorem zlr{b t:Nat}(h:ziz n N hi wb fb bb kb b = .tag (t+2)):∃i,i<n∧b=kb i∧t=zhj i 1:=by
 unfold ziz at h;split at h
 ·cases h
 ·split at h
  ·rename_i hx;have:=Classical.choose_spec hx;exact⟨_,this.1,this.2,by injection h with h;omega⟩
  ·split at h
   ·injection h with h;omega
   ·cases h
end
theorem zzt{w w':World}{l:List Int}{n:Nat}{wb fb bb kb:Nat→Nat}{vw vf vb:Value}(h:MkM w w.heap.size l n n n wb fb bb kb vw vf vb w')(hn:n=min l.length 65536)(hI:∀x∈l,zcm x) :
  NewF (zjc ⟨n,wb,fb,bb⟩ (PlAt w.heap.size ⟨n,wb,fb,bb⟩)) (stC l) w w' (ziz n w.heap.size w'.heap.size wb fb bb kb):=by
 obtain⟨N,hN⟩:∃N,w.heap.size=N:=⟨_,rfl⟩;rw[hN] at h⊢;have lt:∀{b:Nat} {o:Obj},w'.heap[b]?=some o→b<w'.heap.size:=fun{b o} e=>(yah.1 e).1;have typ:∀{b:Nat} {c:Array Value} {t:TypeId},w'.heap[b]?=some (.cells c t (0,0))→t≠102→t≠107→t≠113→¬∃i,i<n∧(b=wb i∨b=fb i∨b=bb i):=fun{b c t} hb h1 h2 h3 ⟨i,hi,z⟩=>by
  rcases z with z|z|z
  ·exact zej hb (h.wo i hi).2 h1 z
  ·exact zej hb (h.fl i hi).2 h2 z
  ·exact zej hb (h.bo i hi).2.1 h3 z
 have typk:∀{b:Nat} {c:Array Value} {t:TypeId},w'.heap[b]?=some (.cells c t (0,0))→t≠184→¬∃i,i<n∧b=kb i:=fun{b c t} hb h1 ⟨i,hi,z⟩=>zej hb (h.bo i hi).2.2.2 h1 z;have h64:∀i,i<n→zcm (l.getD i 0):=fun i hi=>by
  have hl:i<l.length:=by omega
  rw[List.getD_eq_getElem?_getD,List.getElem?_eq_getElem hl];exact hI _ (List.getElem_mem hl)
 have rowT:∀{e:TypeId} {v:Value} {f:Nat→Nat},w'.ownsRow N e 1 v n (zq7 f n)→e≠102→e≠107→e≠113→e≠184→RowT (ziz n N w'.heap.size wb fb bb kb) w'.heap e v n f:=fun{e v f} hr h1 h2 h3 h4=>by
  rcases hr.2 with⟨rfl,q⟩|⟨g,cap,cur,rfl,q1,q2,q3,q4,q5,q6⟩
  ·exact⟨none,0,by rw[q],by omega,fun z=>by omega⟩
  ·refine⟨_,cap,rfl,q3,fun _=>⟨g,cur,rfl,zs5 (typ q2 h1 h2 h3) (typk q2 h4) ⟨q1,lt q2⟩,q2,fun i hi=>?_⟩⟩;have:cur[i]?=(zq7 f n)[i]?:=by
    rw[←q6,List.getElem?_take_of_lt (by omega)];simp
   rw[this,zz1 hi]
 have kbs:∀i,i<n→ziz n N w'.heap.size wb fb bb kb (kb i) = .tag (zhj i 1+2):=fun i hi=>zzj hi (typ (h.bo i hi).2.2.2 (by decide) (by decide) (by decide)) h.ki;have n6:n≤65536:=by omega
 refine⟨⟨⟨n6,fun i hi=>⟨zn9 ⟨i,hi,.inl rfl⟩,(h.wo i hi).2,h64 i hi⟩,fun i hi=>⟨zn9 ⟨i,hi,.inr (.inl rfl)⟩,(h.fl i hi).2⟩,fun i hi=>⟨zn9 ⟨i,hi,.inr (.inr rfl)⟩,⟨_,(h.bo i hi).2.1,h64 i hi,.inr ⟨Nat.one_pos,kb i,rfl,kbs i hi,(h.bo i hi).2.2.2⟩⟩,fun b b' t q q'=>?_,fun b t q=>?_⟩,h.wi,h.fi,h.bi⟩,
  ⟨zs5 (typ h.pl (by decide) (by decide) (by decide)) (typk h.pl (by decide)) ⟨yax _,h.lt⟩,vw,vf,vb,h.pl,rowT h.rw_ (by decide) (by decide) (by decide) (by decide),rowT h.rf_ (by decide) (by decide) (by decide) (by decide),rowT h.rb_ (by decide) (by decide) (by decide) (by decide)⟩⟩,fun b hb=>?_,fun b hb=>?_,fun b hb=>h.low.block b (by omega),by have:=h.lt;omega⟩
 ·obtain⟨i,hi,rfl,e⟩:=zlr q;obtain⟨j,hj,rfl,e'⟩:=zlr q';have:i=j:=by unfold zhj at e e';omega
  rw[this]
 ·obtain⟨j,hj,_,e⟩:=zlr q;show t / 65536≤1;unfold zhj at e;omega
 ·have hb':b<N:=by omega
  refine zp9 (fun⟨i,hi,z⟩=>?_) (fun⟨i,hi,z⟩=>?_) (by omega)
  ·have:=(h.wo i hi).1;have:=(h.fl i hi).1;have:=(h.bo i hi).1;omega
  ·have:=(h.bo i hi).2.2.1;omega
 ·refine zp9 (fun⟨i,hi,z⟩=>?_) (fun⟨i,hi,z⟩=>?_) (by omega)
  ·have:=lt (h.wo i hi).2;have:=lt (h.fl i hi).2;have:=lt (h.bo i hi).2.1;omega
  ·have:=lt (h.bo i hi).2.2.2;omega
def zh5(l:List Int)(LL:List (List OpD))(sch:List Int)(most:Int):GSt (SM za7):=zl2 (doC (min l.length 65536) (moF most)) (stC l) LL sch most
def ze9(k:Nat)(s:za7):List Int:=zj0 k s.W s.F s.B
def trC(l:List Int)(LL:List (List OpD))(sch:List Int)(most:Int):Tr :=
 ⟨(List.range (min LL.length 64)).map (zh5 l LL sch most).m.an,(zh5 l LL sch most).ord,ze9 (min l.length 65536) (zh5 l LL sch most).m.st,decide (0<zbi (zh5 l LL sch most).co (min LL.length 64))⟩
theorem zyk:Prg false Try.prog (·∈[32,33,34,36,37,38,83,87,95,97,100,101,104,105,106,153]):=zgq zag (by kernel_rfl) (by kernel_rfl) (by kernel_rfl)
theorem zrx{Q:Machine→Trace→Prop}{fr:Frame}{cs:List Frame}{w:World}{l:List Int}{LL:List (List OpD)}{sch:List Int}{vl vt vs:Value}(hW:IntsIn w vl l)(hT:ThrIn w vt LL)(hLL:LL.length≤1000000000)(qo:l.length≤1000000000)(hS:IntsIn w vs sch)(hnS:sch.length≤1048576){most:Int}(hmost:most<9223372036854775808)
  (hsm:∀X∈(trC l LL sch most).ans,X.length≤1000000000∧∀r∈X,r.l.length≤1000000000)
  (h:∀ar n c vo vs w',(∀w2:World,(∀b,w.heap.size≤b→b<w'.heap.size→w2.heap[b]?=w'.heap[b]?)→TrIn w2 (.agg #[.slice (some ⟨ar,0,none⟩) n n,vo,vs,.bool (trC l LL sch most).stuck]) (trC l LL sch most))→TrW w.heap.size w'.heap.size w' ar n c vo vs→(∀b,b<w.heap.size→w'.heap[b]?=w.heap[b]?)→w.heap.size≤w'.heap.size→(w'.os=w.os∧w'.output=w.output)→RM Try.prog Q (G (Frame.finish fr (.agg #[.slice (some ⟨ar,0,none⟩) n n,vo,vs,.bool (trC l LL sch most).stuck])) cs) w') :
  RM Try.prog Q (G (Frame.enter Try.prog 30 #[vl,vt,vs,.int .i64 most] .normal) (fr::cs)) w:=by
 rw[enter_at _ Try.func30 rfl];simp only[Try.ntmps30,yan,yau,yav,Nat.reduceAdd,Nat.reduceSub,yao,
   yap,yaq,yar,yas,yat]
 replace h:=yay h;refine zaf rm_xc fun R0 qv=>?_;refine zbn zut (zac zag (by kernel_rfl)) rfl (zaa Try.func30) rfl fun wp hp=>?_
 go_wp2_with fail
 refine fun wa ha=>?_;obtain⟨N,hN⟩:∃N,w.heap.size=N:=⟨_,rfl⟩;have sz0:wp.heap.size=N:=by rw[hp.heap];exact hN
 have szA:wa.heap.size=N+1:=by rw[ha.heap];simp[sz0]
 have eA:wa.heap[N]?=some (.cells #[.slice none 0 0,.slice none 0 0,.slice none 0 0,.bool false] 31 (0,0)):=by rw[ha.heap,←sz0];exact heap_alloc_new _ _
 have lowA:∀b,b<N→wa.heap[b]?=w.heap[b]?:=fun b hb=>by rw[ha.heap,Below.heap_alloc _ _ _ (by omega),hp.heap]
 have outA:wa.os=w.os∧wa.output=w.output:=⟨ha.outs.1.trans hp.outs.1,ha.outs.2.trans hp.outs.2⟩;rw[sz0];clear ha hp sz0 wp;obtain rfl:=qv.out;clear qv;have z2z:∀b,b<w.heap.size→wa.heap[b]?=w.heap[b]?:=fun b hb=>lowA b (by omega);have hWb:=hW.keep z2z;have hTb:=hT.keep z2z;have hSb:=hS.keep z2z;have hI:=hW.1;refine zaf rm_xc fun R0 qv=>?_;refine zbn zyk (zac zag (by kernel_rfl)) rfl (zaa Try.func30) rfl fun wp hp=>?_;have HW:=yay (zwz (w:=wp) (hWb.keep fun b _=>by rw[hp.heap]) (by omega));have szp:wp.heap.size=N+1:=by rw[hp.heap];exact szA
 replace hp:=yay hp
 go_wp2_with (go_at_call 95;refine HW.out.mono ?_;rintro e w' ⟨wb,fb,bb,kb,vw,vf,vb,rfl,hm⟩;have HM:=yay hm;clear hm)
 refine fun w2 h2=>?_;obtain rfl:=qv.out;clear qv;obtain⟨k,hk⟩:∃k,min l.length 65536=k:=⟨_,rfl⟩;have HM2:=HM.out;rw[hk] at HM2;have NFa:=zzt HM2 hk.symm hI;have k6:k≤65536:=by omega
 rw[szp] at NFa
 try rw[szp]
 unfold gpv;have e2:w2.heap=w'.heap:=h2.heap;have NF0:NewF (zjc ⟨k,wb,fb,bb⟩ (PlAt (N+1) ⟨k,wb,fb,bb⟩)) (stC l) wa w2 (ziz k (N+1) w'.heap.size wb fb bb kb):=by
  have h3:=NFa.more (z5o ⟨k,wb,fb,bb⟩ (PlAt.stab (N+1) ⟨k,wb,fb,bb⟩)) (w2:=w2) (by rw[e2];exact yax _) fun b _=>by rw[e2]
  exact⟨h3.rep,fun b hb=>h3.old b (by rw[hp.out.heap];exact hb),h3.new,fun b hb=>(h3.low b (by rw[hp.out.heap];exact hb)).trans (by rw[hp.out.heap]),by have:=h3.size;rw[hp.out.heap] at this;exact this⟩
 have o2:w2.os=w.os∧w2.output=w.output:=⟨(h2.outs.1.trans (HM2.low.os.trans hp.out.outs.1)).trans outA.1,(h2.outs.2.trans (HM2.low.output.trans hp.out.outs.2)).trans outA.2⟩;obtain⟨L,ownF,hLn,NF⟩:∃(L:CL) (ownF:Nat→Owner),L.n=k∧NewF (zjc L (PlAt (N+1) L)) (stC l) wa w2 ownF:=⟨⟨k,wb,fb,bb⟩,_,rfl,NF0⟩;clear NF0 HM2 HM HW h2 e2 NFa hp szp hWb wp w' wb fb bb kb vw vf vb;refine zaf rm_xc fun R0 qv=>?_;refine zmy 5 (by decide) (by decide) (zai (by kernel_rfl)) fun wp hp=>?_;simp only[yad,yae];replace hp:=yay hp
 go_wp2_with fail
 refine zbp rfl fun w4 h4=>?_;have e4:w4.heap=w2.heap:=h4.heap.trans hp.out.heap;have o4:w4.os=w.os∧w4.output=w.output:=⟨(h4.outs.1.trans hp.out.outs.1).trans o2.1,(h4.outs.2.trans hp.out.outs.2).trans o2.2⟩;clear h4 hp wp;have NF4:=NF.more (z5o L (PlAt.stab (N+1) L)) (w2:=w4) (by rw[e4];exact yax _) fun b _=>by rw[e4]
 have sb:=NF4.size;clear NF;refine zap rm_xc rfl rfl (by decide) rfl Try.func78 (by kernel_rfl) (by kernel_rfl) ?_;walk_nrm;rw[show Value.pointer (some ⟨N+1,0,none⟩)=gpv (N+1) from rfl]
 refine zzk (z5o L (PlAt.stab (N+1) L)) (fdo:=96) (recv:=gpv (N+1)) (doφ:=doC L.n (moF most)) Try.func96 (by kernel_rfl) (by kernel_rfl) (fun Z U i=>z5p (zvj (GRep.local (z5o L (PlAt.stab (N+1) L)))) rfl _ (fun hR=>GRep.size hR)) (fun i o κ hκ=>z5h o κ hκ) (fun o κ hκ=>z5n (yax _) o κ hκ) NF4 hTb hLL hSb hnS hmost fun Z own' w5 vo Yn Zlo R5 low5 sz5 outs5 fr5 row5=>?_;rw[hLn] at R5 row5⊢;have hgm:zl2 (doC k (moF most)) (stC l) LL sch most=zh5 l LL sch most:=by unfold zh5;rw[hk]
 rw[hgm] at R5 row5⊢;have htr:trC l LL sch most=⟨(List.range (min LL.length 64)).map (zh5 l LL sch most).m.an,(zh5 l LL sch most).ord,ze9 k (zh5 l LL sch most).m.st,decide (0<zbi (zh5 l LL sch most).co (min LL.length 64))⟩:=by unfold trC;rw[hk]
 rw[htr] at h hsm;generalize zh5 l LL sch most=gf at *;clear hgm htr;have o5:w5.os=w.os∧w5.output=w.output:=⟨outs5.1.trans o4.1,outs5.2.trans o4.2⟩;clear NF4 outs5 hTb hSb;rw[Frame.finish_at];obtain⟨n,hn⟩:∃n,min LL.length 64=n:=⟨_,rfl⟩;rw[hn] at Yn h⊢;obtain⟨vp,vc2,rfl⟩:∃vp vc2,vo = .slice vp gf.ord.length vc2:=zbe row5;rw[Yn];obtain⟨K,hK⟩:∃K,w5.heap.size=K:=⟨_,rfl⟩;refine zd0 6 2 (by decide) (by decide) (zai (by kernel_rfl)) fun wp hp=>?_;simp only[yaf,yag,yad,yae];unfold z0x;have szp:wp.heap.size=K:=by rw[hp.heap];exact hK
 replace hp:=yay hp;replace row5:=yay row5;replace hn:=yay hn;replace Yn:=yay Yn
 go_wp2_with fail
 refine zbp rfl fun w6 h6=>?_;refine zad rm_xc ?_;obtain rfl:=qv.out;clear qv;have e6:w6.heap[K]?=some (.cells #[.slice (some ⟨Z.ar,0,none⟩) n n,.slice vp gf.ord.length vc2,.slice none 0 0,.bool (decide (0<zbi gf.co n))] 31 (0,0)):=by
  rw[h6.heap,←szp];exact heap_alloc_new _ _
 have low6:∀b,b<K→w6.heap[b]?=w5.heap[b]?:=fun b hb=>by rw[h6.heap,Below.heap_alloc _ _ _ (by omega),hp.out.heap]
 have sz6:w6.heap.size=K+1:=by rw[h6.heap];simp[szp]
 have o6:w6.os=w.os∧w6.output=w.output:=⟨(h6.outs.1.trans hp.out.outs.1).trans o5.1,(h6.outs.2.trans hp.out.outs.2).trans o5.2⟩;have eA6:w6.heap[N]?=some (.cells #[.slice none 0 0,.slice none 0 0,.slice none 0 0,.bool false] 31 (0,0)):=(low6 _ (by omega)).trans ((low5 _ (by omega)).trans eA);clear h6 hp szp wp;refine zaf rm_xc fun R0 qv=>?_;refine zbn zyk (zac zag (by kernel_rfl)) rfl (zaa Try.func30) rfl fun wp hp=>?_;have R6:zjc L (PlAt (N+1) L) gf.m.st own' wp:=by
  have lt5:∀{b:Nat},own' b ≠ .out→b<K:=fun{b} hb=>by
   rcases Nat.lt_or_ge b K with z|z
   ·exact z
   ·exact absurd (fr5 b (by omega)) hb
  exact(z5o L (PlAt.stab (N+1) L)).keep R5.fam (fun b c t f hb _ _ _=>⟨hb,(congrArg (·[b]?) hp.heap).trans (low6 b (lt5 (by rw[hb];simp)))⟩) (fun b v _ hb=>⟨hb,(congrArg (·[b]?) hp.heap).trans (low6 b (lt5 (by rw[hb];simp)))⟩) fun b v hb => .inl hb
 have HST:=zrr R6.1 R6.2;have szp:wp.heap.size=K+1:=by rw[hp.heap];exact sz6
 rw[szp,hLn] at HST;replace HST:=yay HST;have gK:wp.heap[K]?=_:=(congrArg (·[K]?) hp.heap).trans e6;obtain⟨sn,hsn⟩:∃sn,3*k=sn:=⟨_,rfl⟩;rw[hsn] at HST;replace gK:=yay gK;replace hp:=yay hp;replace hsn:=yay hsn;clear R6;unfold gpv at HST
 go_wp2_with (go_at_call 97;refine HST.out.mono ?_;rintro e w' ⟨sv,rfl,hrow,hb⟩;obtain⟨sp,sc,rfl⟩:=zbe hrow;have hgk:=(hb.block K (by omega)).trans gK.out;have c2:=zab hgk 2;simp only[yac,yaa,yab] at c2;have z2:=zam hgk 2;replace hgk:=yay hgk;have row8:=yay hrow;have B8:=yay hb;clear hrow hb)
 refine fun w9 h9=>?_;obtain rfl:=qv.out;clear qv;have e8:=hgk.out;have s9:=zal e8 2 (.slice sp sn sc);rw[←h9.heap] at s9;simp only[yan,yau,yav,yak,yam,yal] at s9;have k8:∀b,b<K+1→w'.heap[b]?=w6.heap[b]?:=fun b hb=>(B8.out.block b hb).trans (congrArg (·[b]?) hp.out.heap);have k9:∀b,b≠K→w9.heap[b]?=w'.heap[b]?:=fun b hb=>by rw[h9.heap,Below.heap_setCell _ _ _ _ hb]
 have z9:w9.heap.size=w'.heap.size:=by rw[h9.heap];simp[World.setCell]
 have sz8':K+1≤w'.heap.size:=by have:=B8.out.size;omega
 have o9:w9.os=w.os∧w9.output=w.output:=⟨(h9.outs.1.trans (B8.out.os.trans hp.out.outs.1)).trans o6.1,(h9.outs.2.trans (B8.out.output.trans hp.out.outs.2)).trans o6.2⟩;have eA8:=(k8 N (by omega)).trans eA6;generalize w'=w8 at *;clear h9 hp szp gK hgk HST e8 c2 z2 wp B8;refine zaf rm_xc fun R0 qv=>?_;refine zbn zut (zac zag (by kernel_rfl)) rfl (zaa Try.func30) rfl fun wq hq=>?_;have g6:wq.heap[K]?=_:=(congrArg (·[K]?) hq.heap).trans s9;have g0:wq.heap[N]?=some (.cells #[.slice none 0 0,.slice none 0 0,.slice none 0 0,.bool false] 31 (0,0)):=(congrArg (·[N]?) hq.heap).trans ((k9 _ (by omega)).trans eA8);have d0:=zab g6 0;have d1:=zab g6 1;have d2:=zab g6 2;have d3:=zab g6 3;have c0:=zab g0 0;have c1:=zab g0 1;have c3:=zab g0 3;have c22:=zab g0 2;have y0:=zam g0 0;have y1:=zam g0 1;have y2:=zam g0 2;have y3:=zam g0 3;simp only[yac,yaa,yab] at c0 c1 c22 c3 d0 d1 d2 d3;replace g0:=yay g0;replace g6:=yay g6;replace s9:=yay s9;replace hq:=yay hq
 go_wp2_with fail
 refine fun w10 h10=>?_;obtain⟨s1,s2,s3⟩:=z6e (x := .slice (some ⟨Z.ar,0,none⟩) n n) (y := .slice vp gf.ord.length vc2) (z := .slice sp sn sc) (u := .bool (decide (0<zbi gf.co n))) g0.out;have hh:=h10.heap;rw[←hh] at s1 s2 s3;have o10:w10.os=w.os∧w10.output=w.output:=⟨(h10.outs.1.trans hq.out.outs.1).trans o9.1,(h10.outs.2.trans hq.out.outs.2).trans o9.2⟩;have k10:∀b,b≠N→w10.heap[b]?=w9.heap[b]?:=fun b hb=>(s2 b hb).trans (congrArg (·[b]?) hq.out.heap);have z10:w10.heap.size=w8.heap.size:=by rw[s3,hq.out.heap,z9]
 clear h10 hh s2 s3 c0 c1 c22 c3 y0 y1 y2 y3 d0 d1 d2 d3 g0 g6 hq wq;obtain rfl:=qv.out;clear qv;refine zc0 rm_xc ?_;refine za4 rm_xc (zaa Try.func30) (zb1 _) (v := .agg #[.slice (some ⟨Z.ar,0,none⟩) n n,.slice vp gf.ord.length vc2,.slice sp sn sc,.bool (decide (0<zbi gf.co n))]) (by
  rw[zds];exact⟨rfl,rfl,rfl,_,Try.func30,results_cell_row rfl _ _ N 31 _ (0,0) _ rfl s1 Try.underlying31 rfl zsy⟩) ?_
 have k58:∀(b:Nat) (c:Array Value) (t:TypeId),w5.heap[b]?=some (Obj.cells c t (0,0))→t≠31→w10.heap[b]?=w5.heap[b]?:=fun b c t hb ht=>by
  have qr:=(yah.1 hb).1;have n1:b≠N:=fun z=>by
   rw[←low6 b (by omega),z,eA6] at hb;simp at hb;exact ht hb.2.symm
  rw[k10 b n1,k9 b (by omega),k8 b (by omega),low6 b (by omega)]
 obtain⟨ac,avs,ha⟩:=R5.ans;have ra:=zu8 ha (w':=w10) fun b c t hb ht=>k58 b c t hb (by rcases ht with z|z|z<;>rw[z]<;>decide);rw[Yn.out] at ra;have ro:IntsAt w10 (.slice vp gf.ord.length vc2) gf.ord:=zdl (zaq row5.out fun g o hg hh=>by
  obtain⟨cc,hcc⟩:=zak row5.out hg;exact(k58 _ _ 3 hcc (by decide)).trans hh)
 have rs:IntsAt w10 (.slice sp sn sc) (ze9 k gf.m.st):=zdl (n:=sn) (zaq row8.out fun g o hg hh=>by
  have h1:=(zb8 row8.out hg).1;exact(k10 g (by omega)).trans ((k9 g (by omega)).trans hh))
 have ro2:w10.ownsRow w4.heap.size 3 1 (.slice vp gf.ord.length vc2) gf.ord.length (zdw gf.ord):=zaq row5.out fun g o hg hh=>by
  obtain⟨cc,hcc⟩:=zak row5.out hg;exact(k58 _ _ 3 hcc (by decide)).trans hh
 have rs2:w10.ownsRow (K+1) 2 1 (.slice sp sn sc) sn (zdw (ze9 k gf.m.st)):=zaq row8.out fun g o hg hh=>by
  have h1:=(zb8 row8.out hg).1;exact(k10 g (by omega)).trans ((k9 g (by omega)).trans hh)
 have tw:=z4g (lo:=w.heap.size) ha (w':=w10) (vo := .slice vp gf.ord.length vc2) (vs := .slice sp sn sc) (fun b c t hb ht=>k58 b c t hb (by rcases ht with z|z|z<;>rw[z]<;>decide)) (by omega) (by have:=R5.lo;omega) (fun j hj=>hsm _ (List.mem_map.2 ⟨j,List.mem_range.2 (by have:=hn.out;have:=Yn.out;omega),rfl⟩)) ⟨_,_,zn3 ro2 (by omega)⟩ ⟨_,_,zn3 rs2 (by omega)⟩;rw[Yn.out] at tw;have lt10:∀b o,w10.heap[b]?=some o→b<w10.heap.size:=fun b o hb=>(yah.1 hb).1;have tin:∀w2:World,(∀b,w.heap.size≤b→b<w10.heap.size→w2.heap[b]?=w10.heap[b]?)→TrIn w2 (.agg #[.slice (some ⟨Z.ar,0,none⟩) n n,.slice vp gf.ord.length vc2,.slice sp sn sc,.bool (decide (0<zbi gf.co n))]) ⟨(List.range n).map gf.m.an,gf.ord,ze9 k gf.m.st,decide (0<zbi gf.co n)⟩:=fun w2 hw2=>by
  have r1:=zsn ha (w':=w2) R5.lo fun b c t hlo hb ht=>by
   have e:=k58 b c t hb (by rcases ht with z|z|z<;>rw[z]<;>decide);exact(hw2 b (by omega) (lt10 b _ (e.trans hb))).trans e
  rw[Yn.out] at r1;refine⟨.slice (some ⟨Z.ar,0,none⟩) n n,.slice vp gf.ord.length vc2,.slice sp sn sc,rfl,r1,zdl (zaq ro2 fun g o hg hh=>?_),zdl (n:=sn) (zaq rs2 fun g o hg hh=>?_)⟩
  ·exact(hw2 g (by have:=(zb8 ro2 hg).1;omega) (lt10 g _ hh)).trans hh
  ·exact(hw2 g (by have:=(zb8 rs2 hg).1;omega) (lt10 g _ hh)).trans hh
 refine h.out Z.ar n ac (.slice vp gf.ord.length vc2) (.slice sp sn sc) w10 tin tw (fun b hb=>?_) (by omega) o10;have hbN:b<N:=by omega
 rw[k10 b (by omega),k9 b (by omega),k8 b (by omega),low6 b (by omega),low5 b (by omega),z2z b (by omega)]
def zo2(s:za7):List OpD→za7
 | []=>s
 | o::l=>zo2 (zbo s o).2 l
def ztz(s:za7):List OpD→List Ans
 | []=>[]
 | o::l=>(zbo s o).1::ztz (zbo s o).2 l
def zf0(s:za7):List OpD→Nat
 | []=>0
 | o::l=>ze2 s o+zf0 (zbo s o).2 l
theorem ztx:∀(l:List OpD) (s:za7),(ztz s l).length=l.length
 | [],_=>rfl
 | o::l,s=>by simp[ztz,ztx l]
theorem zp3:∀(l:List OpD) (s:za7) (o:OpD),zo2 s (l++[o])=(zbo (zo2 s l) o).2
 | [],_,_=>rfl
 | x::l,s,o=>zp3 l _ o
theorem zjx:∀(l:List OpD) (s:za7) (o:OpD),zf0 s (l++[o])=zf0 s l+ze2 (zo2 s l) o
 | [],s,o=>by simp[zf0,zo2]
 | x::l,s,o=>by
  show ze2 s x+zf0 _ (l++[o])=ze2 s x+zf0 _ l+_;rw[zjx l];show _=ze2 s x+zf0 _ l+ze2 (zo2 (zbo s x).2 l) o;omega
theorem zty:∀(l:List OpD) (s:za7) (j:Nat) (o:OpD),l[j]?=some o→(ztz s l)[j]?=some (zbo (zo2 s (l.take j)) o).1
 | [],_,_,_,h=>by simp at h
 | x::l,s,0,o,h=>by
  simp only[yaa,Option.some.injEq] at h;subst h;rfl
 | x::l,s,j+1,o,h=>by
  simp only[yab] at h;show(ztz (zbo s x).2 l)[j]?=_;rw[zty l _ j o h];rfl
theorem zkz:∀(l:List OpD) (s:za7),zf0 s l≤2*l.length
 | [],_=>Nat.zero_le _
 | o::l,s=>by
  have h1:=ztq s o;have h2:=zkz l (zbo s o).2;show ze2 s o+zf0 _ l≤2*(l.length+1);omega
theorem z3o{f:Nat}{o:OpD}{κ:Ans→Fu (SM za7)}(ha:o.a=0):doC 1 f o κ=zos (zcc 0) (zhl 0) (zdm 0) f o κ:=by
 unfold doC zos;rw[if_neg (by rw[ha];decide),ha];rfl
theorem zya{f i:Nat}:∀(l:List OpD) {s:za7} {an:Nat→List Ans},(∀o∈l,o.a=0)→AlS (zf0 s l) (zjp (doC 1 (f+1)) i l ⟨s,an⟩) (⟨zo2 s l,upd an i (an i++ztz s l)⟩,.fin)
 | [],s,an,hl=>by
  refine .of_eq ?_;show((⟨s,an⟩:SM za7),Co.fin)=_;have e:upd an i (an i++ztz s [])=an:=by
   funext j;by_cases z:j=i
   ·subst z;rw[upd_same];exact List.append_nil _
   ·rw[upd_ne _ _ z]
  rw[e];rfl
 | o::l,s,an,hl=>by
  have h0:AlS (ze2 s o) (doC 1 (f+1) o (fun r m=>zjp (doC 1 (f+1)) i l (m.tell i r)) ⟨s,an⟩) ((fun(r:Ans) (m:SM za7)=>zjp (doC 1 (f+1)) i l (m.tell i r)) (zbo s o).1 ⟨(zbo s o).2,an⟩):=by
   rw[z3o (hl o (List.mem_cons_self ..))];exact zo0
  refine AlS.trans h0 ?_;have:=zya (f:=f) (i:=i) l (s:=(zbo s o).2) (an:=upd an i (an i++[(zbo s o).1])) fun x hx=>hl x (List.mem_cons_of_mem _ hx);rw[upd_same] at this;have e:upd (upd an i (an i++[(zbo s o).1])) i (an i++[(zbo s o).1]++ztz (zbo s o).2 l)=upd an i (an i++ztz s (o::l)):=by
   funext j;by_cases z:j=i
   ·subst z;rw[upd_same,upd_same,List.append_assoc];rfl
   ·rw[upd_ne _ _ z,upd_ne _ _ z,upd_ne _ _ z]
  rw[e] at this;exact this
theorem z1x{v:Int}{L:List OpD}(hL:∀o∈L,o.a=0) :
  trC [v] [L] [] 1048576=⟨[ztz (stC [v]) (L.take 65536)],List.replicate (zf0 (stC [v]) (L.take 65536)) 0,ze9 1 (zo2 (stC [v]) (L.take 65536)),false⟩:=by
 have hL':∀o∈L.take 65536,o.a=0:=fun o ho=>hL o (List.mem_of_mem_take ho);have h:zf0 (stC [v]) (L.take 65536)≤1048576:=by
  have h1:=zkz (L.take 65536) (stC [v]);have h2:(L.take 65536).length≤65536:=by rw[List.length_take];omega
  omega
 have A:=zya (f:=1048575) (i:=0) (an:=fun _=>[]) (s:=stC [v]) (L.take 65536) hL';have e:zh5 [v] [L] [] 1048576=⟨⟨zo2 (stC [v]) (L.take 65536),upd (fun _=>[]) 0 (ztz (stC [v]) (L.take 65536))⟩,upd (upd (fun _ => .fin) 0 (zjp (doC 1 1048576) 0 (L.take 65536) ⟨stC [v],fun _=>[]⟩).2) 0 .fin,List.replicate (zf0 (stC [v]) (L.take 65536)) 0⟩:=by
  unfold zh5 zl2 zn8;show zc2 1 1048576 1048576 ⟨(zjp (doC 1 1048576) 0 (L.take 65536) ⟨stC [v],fun _=>[]⟩).1,upd (fun _ => .fin) 0 (zjp (doC 1 1048576) 0 (L.take 65536) ⟨stC [v],fun _=>[]⟩).2,[]⟩=_;exact zuo A _ _ rfl (by dsimp only;rw[upd_same]) (by simpa using h) h
 unfold trC;rw[e];have e2:decide (0<zbi (upd (upd (fun _=>Co.fin) 0 (zjp (doC 1 1048576) 0 (L.take 65536) ⟨stC [v],fun _=>[]⟩).2) 0 Co.fin) (min [L].length 64))=false:=by
  show decide (0<zbi _ 1)=false;rw[zod,upd_same];rfl
 rw[e2];rfl
section
variable{S S':Type}{R:S→(Nat→Owner)→World→Prop}{R':S'→(Nat→Owner)→World→Prop}{B B':Nat→Prop}
theorem FW.lt{s:S}{own:Nat→Owner}{w:World}(h:FW R B s own w){b:Nat}(hb:own b ≠ .out):b<w.heap.size:=by
 rcases Nat.lt_or_ge b w.heap.size with z|z
 ·exact z
 ·exact absurd (h.new b z) hb
theorem FW.aside(F:zq1 R B){s:S}{o1 o2 o2':Nat→Owner}{w w':World}(h:FW R B s o1 w)(hd:∀b,o1 b = .out∨o2 b = .out)(l:Left o2 o2' w w'):FW R B s o1 w'∧∀b,o1 b = .out∨o2' b = .out:=by
 refine⟨h.keep F l.size fun b hb ho=>(l.same b hb ((hd b).resolve_left ho)).2,fun b=>?_⟩;by_cases ho:o1 b = .out
 ·exact .inl ho
 ·exact .inr (l.same b (h.lt ho) ((hd b).resolve_left ho)).1
structure ND(R:S→(Nat→Owner)→World→Prop)(B:Nat→Prop)(R':S'→(Nat→Owner)→World→Prop)(B':Nat→Prop)(w0:World)(sz:S)(sw:S')(oz ow:Nat→Owner)(w:World):Prop where
 z:FW R B sz oz w
 wt:FW R' B' sw ow w
 dis:∀b,oz b = .out∨ow b = .out
 l:LeftW w0 w
 oz0:∀b,b<w0.heap.size→oz b = .out
 ow0:∀b,b<w0.heap.size→ow b = .out
variable{w0 w w':World}{sz s':S}{sw t':S'}{oz ow o':Nat→Owner}
theorem ND.left(F:zq1 R B)(F':zq1 R' B')(h:ND R B R' B' w0 sz sw oz ow w)(l:LeftW w w'):ND R B R' B' w0 sz sw oz ow w' :=
 ⟨h.z.keep F l.size fun b hb _=>l.same b hb,h.wt.keep F' l.size fun b hb _=>l.same b hb,h.dis,h.l.trans l,h.oz0,h.ow0⟩
theorem ND.stepZ(F':zq1 R' B')(h:ND R B R' B' w0 sz sw oz ow w)(g:FW R B s' o' w')(l:Left oz o' w w'):ND R B R' B' w0 s' sw o' ow w':=by
 obtain⟨h1,h2⟩:=FW.aside F' h.wt (fun b=>(h.dis b).symm) l;have hs:=h.l.size;exact⟨g,h1,fun b=>(h2 b).symm,⟨fun b hb=>(l.same b (by omega) (h.oz0 b hb)).2.trans (h.l.same b hb),Nat.le_trans hs l.size,l.outs.1.trans h.l.outs.1,l.outs.2.trans h.l.outs.2⟩,fun b hb=>(l.same b (by omega) (h.oz0 b hb)).1,h.ow0⟩
structure KD(R:S→(Nat→Owner)→World→Prop)(B:Nat→Prop)(R':S'→(Nat→Owner)→World→Prop)(B':Nat→Prop)(w0:World)(sb n:Nat)(sz:S)(sw:S')(oz ow:Nat→Owner)(w:World):Prop where
 ns:ND R B R' B' w0 sz sw oz ow w
 sz:oz sb = .out
 sw:ow sb = .out
 lo:w0.heap.size≤sb
 cnt:w.heap[sb]?=some (zym n)
variable{sb n n':Nat}
theorem KD.lt(h:KD R B R' B' w0 sb n sz sw oz ow w):sb<w.heap.size:=(yah.1 h.cnt).1
theorem KD.left(F:zq1 R B)(F':zq1 R' B')(h:KD R B R' B' w0 sb n sz sw oz ow w)(l:LeftW w w'):KD R B R' B' w0 sb n sz sw oz ow w':=⟨h.ns.left F F' l,h.sz,h.sw,h.lo,(l.same sb h.lt).trans h.cnt⟩
theorem KD.stepZ(F':zq1 R' B')(h:KD R B R' B' w0 sb n sz sw oz ow w)(g:FW R B s' o' w')(l:Left oz o' w w'):KD R B R' B' w0 sb n s' sw o' ow w' :=
 ⟨h.ns.stepZ F' g l,(l.same sb h.lt h.sz).1,h.sw,h.lo,(l.same sb h.lt h.sz).2.trans h.cnt⟩
theorem KD.stepC(F:zq1 R B)(h:KD R B R' B' w0 sb n sz sw oz ow w)(g:FW R' B' t' o' w')(l:z0r sb ow o' w w')(hc:w'.heap[sb]?=some (zym n')):KD R B R' B' w0 sb n' sz t' oz o' w':=by
 obtain⟨⟨hz,hw,hd,hl,z0,w0'⟩,h1,h2,h3,h4⟩:=h;have qr:=(yah.1 h4).1;have hs:=hl.size;have ne:∀{b},oz b ≠ .out→b≠sb:=fun hb e=>hb (e▸h1);refine⟨⟨hz.keep F l.size fun b hb ho=>(l.same b hb (ne ho) ((hd b).resolve_left ho)).2,g,fun b=>?_,⟨fun b hb=>(l.same b (by omega) (by omega) (w0' b hb)).2.trans (hl.same b hb),Nat.le_trans hs l.size,l.outs.1.trans hl.outs.1,l.outs.2.trans hl.outs.2⟩,z0,fun b hb=>(l.same b (by omega) (by omega) (w0' b hb)).1⟩,h1,l.cnt,h3,hc⟩;by_cases ho:oz b = .out
 ·exact .inl ho
 ·exact .inr (l.same b (hz.lt ho) (ne ho) ((hd b).resolve_left ho)).1
end
theorem z41{v:Int}(hv:zcm v){w0 w1:World}{wb fb bb kb:Nat}(hN:LeftW w0 w1)(hd:w0.heap.size≤wb∧w0.heap.size≤fb∧w0.heap.size≤bb∧w0.heap.size≤kb)
  (e1:w1.heap[wb]?=some (.cells #[.int .i64 v] 102 (0,0))) (e2:w1.heap[fb]?=some (.cells #[.int .u32 (bit false)] 107 (0,0))) (e3:w1.heap[bb]?=some (.cells #[.pointer (some ⟨kb,0,none⟩)] 113 (0,0))) (e4:w1.heap[kb]?=some (.cells #[.int .i64 v,.int .i64 0] 184 (0,0))) :
  ThW wb fb bb (stC [v]) (fun b=>if b=wb∨b=fb∨b=bb then .sh else if b=kb then .tag (zhj 0 1+2) else .out) w1:=by
 have l1:=(yah.1 e1).1;have l2:=(yah.1 e2).1;have l3:=(yah.1 e3).1;have l4:=(yah.1 e4).1;have hk:¬(kb=wb∨kb=fb∨kb=bb):=by
  rintro(z|z|z)<;>rw[z] at e4
  ·rw[e1] at e4;simp at e4
  ·rw[e2] at e4;simp at e4
  ·rw[e3] at e4;simp at e4
 have htag:∀x t,(if x=wb∨x=fb∨x=bb then Owner.sh else if x=kb then .tag (zhj 0 1+2) else .out) = .tag (t+2)→x=kb∧t=zhj 0 1:=fun x t q=>by
  split at q
  ·cases q
  ·split at q
   ·rename_i z;injection q with q;exact⟨z,by omega⟩
   ·cases q
 refine⟨⟨show 1≤65536 by decide,fun i hi=>?_,fun i hi=>?_,fun i hi=>?_,fun i j hi hj _=>by have:i<1:=hi;have:j<1:=hj;omega,fun i j hi hj _=>by have:i<1:=hi;have:j<1:=hj;omega,fun i j hi hj _=>by have:i<1:=hi;have:j<1:=hj;omega⟩,fun b hb=>?_,fun b hb=>?_⟩
 ·obtain rfl:i=0:=by have:i<1:=hi;omega
  exact⟨if_pos (.inl rfl),e1,hv⟩
 ·obtain rfl:i=0:=by have:i<1:=hi;omega
  exact⟨if_pos (.inr (.inl rfl)),e2⟩
 ·obtain rfl:i=0:=by have:i<1:=hi;omega
  refine⟨if_pos (.inr (.inr rfl)),⟨_,e3,hv,.inr ⟨Nat.one_pos,kb,rfl,?_,e4⟩⟩,fun x y t q1 q2=>?_,fun x t q=>?_⟩
  ·dsimp only;rw[if_neg hk,if_pos rfl];rfl
  ·rw[(htag x _ q1).1,(htag y _ q2).1]
  ·rw[(htag x _ q).2];show zhj 0 1 / 65536≤1;decide
 ·rw[if_neg (by rintro(z|z|z)<;>omega),if_neg (by omega)]
 ·by_cases z:b=wb∨b=fb∨b=bb
  ·exact .inl z
  ·right;rw[if_neg z] at hb⊢;by_cases y:b=kb
   ·rw[if_pos y];exact⟨_,by omega,rfl⟩
   ·rw[if_neg y] at hb;exact absurd rfl hb
noncomputable def c8:Code:=(Try.f8.body).getD .skip
def A8(x:Nat→Value):Act:=⟨#[x 0,x 1,x 2,x 3,x 4,x 5,x 6,x 7,x 8,x 9,x 10,x 11,x 12,x 13,x 14,x 15,x 16,x 17,x 18,x 19,x 20,x 21,x 22,x 23,x 24,x 25,x 26,x 27,x 28,x 29,x 30,x 31,x 32,x 33,x 34,x 35,x 36,x 37,x 38,x 39,x 40,x 41,x 42,x 43,x 44,x 45,x 46,x 47,x 48,x 49,x 50,x 51,x 52,x 53,x 54,x 55,x 56,x 57,x 58,x 59,x 60,x 61,x 62,x 63,x 64,x 65,x 66,x 67,x 68,x 69,x 70,x 71,x 72,x 73,x 74,x 75,x 76,x 77,x 78,x 79,x 80,x 81,x 82,x 83,x 84,x 85,x 86,x 87,x 88,x 89,x 90,x 91,x 92,x 93,x 94,x 95,x 96,x 97,x 98,x 99,x 100,x 101,x 102,x 103,x 104,x 105,x 106,x 107,x 108,x 109,x 110,x 111,x 112,x 113,x 114,x 115,x 116,x 117,x 118,x 119,x 120,x 121,x 122,x 123,x 124,x 125,x 126,x 127,x 128,x 129,x 130,x 131,x 132,x 133,x 134,x 135,x 136,x 137,x 138,x 139,x 140,x 141,x 142,x 143,x 144,x 145,x 146,x 147,x 148,x 149,x 150,x 151,x 152,x 153,x 154,x 155,x 156,x 157,x 158,x 159,x 160,x 161,x 162,x 163,x 164,x 165,x 166,x 167,x 168,x 169,x 170,x 171,x 172,x 173,x 174,x 175,x 176,x 177,x 178,x 179,x 180,x 181,x 182,x 183,x 184,x 185,x 186,x 187,x 188,x 189,x 190,x 191,x 192,x 193,x 194,x 195,x 196,x 197,x 198,x 199,x 200,x 201,x 202],[]⟩
theorem zh8(l:Array Value)(hl:l.size=203):(⟨l,[]⟩:Act)=A8 fun j=>l.getD j undef:=by
 have e:∀x:Nat→Value,(A8 x).tmps=((List.range 203).map x).toArray:=fun x=>rfl;have h1:l=(A8 fun j=>l.getD j undef).tmps:=by
  rw[e];apply Array.ext_getElem?;intro i;by_cases h:i<203
  ·have h':i<l.size:=by omega
   simp[h,h',List.getElem?_range]
  ·have h':¬i<l.size:=by omega
   rw[Array.getElem?_eq_none (by omega),Array.getElem?_eq_none (by simp;omega)]
 exact congrArg (Act.mk · []) h1
theorem z1h{x:Nat→Value}{k:Nat}{v:Value}(hk:k<203):(A8 x).put (some k) v=A8 (upd x k v):=by
 have e:∀x:Nat→Value,(A8 x).tmps=((List.range 203).map x).toArray:=fun x=>rfl;have h1:((A8 x).put (some k) v).tmps=(A8 (upd x k v)).tmps:=by
  show(A8 x).tmps.setIfInBounds k v=_;rw[e,e];apply Array.ext_getElem?;intro i;by_cases h:i<203
  ·by_cases q:k=i
   ·subst q;rw[Array.getElem?_setIfInBounds_self_of_lt (by simp;omega)];simp[h,List.getElem?_range,upd_same]
   ·rw[Array.getElem?_setIfInBounds_ne q];simp[h,List.getElem?_range,upd_ne _ _ (Ne.symm q)]
  ·rw[Array.getElem?_eq_none (by simp;omega),Array.getElem?_eq_none (by simp;omega)]
 exact congrArg (Act.mk · []) h1
noncomputable def zk2:Code:=cB (cB (cB (cB (cB (cB (cB (cB (cB c8))))))))
noncomputable def zqd:Code:=cA (cA (cB (cA zk2)))
noncomputable def in8:Code:=cA (cA (cB zqd))
noncomputable def z4v:Code:=cA (cB in8)
noncomputable def z4u:Code:=cA (cB (cB in8))
structure P8 where
 wa:Nat
 fa:Nat
 ba:Nat
 wb:Nat
 fb:Nat
 bb:Nat
 sb:Nat
def thO(wb fb bb:Nat):Obj := .cells #[gpv wb,gpv fb,gpv bb] 80 (0,0)
abbrev KC(P:P8)(w0:World)(n:Nat)(sz sw:za7)(oz ow:Nat→Owner)(w:World):Prop:=KD (zb3 (TL P.wa P.fa P.ba)) (ThB P.wa P.fa P.ba) (zb3 (TL P.wb P.fb P.bb)) (ThB P.wb P.fb P.bb) w0 P.sb n sz sw oz ow w
structure KE(P:P8)(X:List (Nat×Obj))(w0:World)(n:Nat)(sz sw:za7)(oz ow:Nat→Owner)(w:World):Prop where
 ks:KC P w0 n sz sw oz ow w
 ex:∀K o,(K,o)∈X→BlkAt (mk P.sb oz) ow w K o
section
variable{P:P8}{X:List (Nat×Obj)}{w0 w w':World}{n n':Nat}{sz sw s':za7}{oz ow o':Nat→Owner}
theorem KE.left(h:KE P X w0 n sz sw oz ow w)(l:LeftW w w'):KE P X w0 n sz sw oz ow w':=⟨h.ks.left famTh famTh l,fun K o hK=>(h.ex K o hK).keep fun b hb h1 h2=>⟨⟨h1,h2⟩,l.same b hb⟩⟩
theorem KE.sim(h:KE P X w0 n sz sw oz ow w)(e:w'.heap=w.heap)(ho:w'.os=w.os∧w'.output=w.output):KE P X w0 n sz sw oz ow w':=h.left (.of_sim e ho)
theorem KE.stepZ(h:KE P X w0 n sz sw oz ow w)(g:ThW P.wa P.fa P.ba s' o' w')(l:Left oz o' w w'):KE P X w0 n s' sw o' ow w' :=
 ⟨h.ks.stepZ famTh g l,fun K o hK=>(h.ex K o hK).keep fun b hb h1 h2=>⟨⟨mk_out.2 ⟨(mk_out.1 h1).1,(l.same b hb (mk_out.1 h1).2).1⟩,h2⟩,(l.same b hb (mk_out.1 h1).2).2⟩⟩
theorem KE.stepC(h:KE P X w0 n sz sw oz ow w)(g:ThW P.wb P.fb P.bb s' o' w')(l:z0r P.sb ow o' w w')(hc:w'.heap[P.sb]?=some (zym n')):KE P X w0 n' sz s' oz o' w' :=
 ⟨h.ks.stepC famTh g l hc,fun K o hK=>(h.ex K o hK).keep fun b hb h1 h2=>⟨⟨h1,(l.same b hb (mk_out.1 h1).1 h2).1⟩,(l.same b hb (mk_out.1 h1).1 h2).2⟩⟩
theorem KE.more(h:KE P X w0 n sz sw oz ow w){K:Nat}{o:Obj}(l:LeftW w w')(hK:w.heap.size≤K)(ho:w'.heap[K]?=some o):KE P ((K,o)::X) w0 n sz sw oz ow w' :=
 ⟨h.ks.left famTh famTh l,fun K' o' hm=>by
  rcases List.mem_cons.1 hm with e|e
  ·simp only[Prod.mk.injEq] at e;obtain⟨rfl,rfl⟩:=e;exact⟨mk_out.2 ⟨fun z=>by have:=h.ks.lt;omega,h.ks.ns.z.new _ hK⟩,h.ks.ns.wt.new _ hK,ho⟩
  ·exact(h.left l).ex K' o' e⟩
theorem KE.set{K:Nat}{o p:Obj}(h:KE P ((K,o)::X) w0 n sz sw oz ow w)(hX:∀K' o',(K',o')∈X→K'≠K)(hl:w0.heap.size≤K)(hs:w'.heap.size=w.heap.size)(ho:w'.os=w.os∧w'.output=w.output)(hk:∀b,b≠K→w'.heap[b]?=w.heap[b]?)(hp:w'.heap[K]?=some p):KE P ((K,p)::X) w0 n sz sw oz ow w':=by
 have hb:=h.ex K o (List.mem_cons_self ..);have h1:=h.ks;obtain⟨hkz,hz⟩:=mk_out.1 hb.z;have hw:=hb.wt;refine⟨⟨⟨h1.ns.z.keep famTh (by omega) fun b _ h0=>hk b fun q=>h0 (q▸hz),h1.ns.wt.keep famTh (by omega) fun b _ h0=>hk b fun q=>h0 (q▸hw),h1.ns.dis,⟨fun b hb=>(hk b (by omega)).trans (h1.ns.l.same b hb),by have:=h1.ns.l.size;omega,ho.1.trans h1.ns.l.outs.1,ho.2.trans h1.ns.l.outs.2⟩,h1.ns.oz0,h1.ns.ow0⟩,h1.sz,h1.sw,h1.lo,(hk _ fun q=>hkz q.symm).trans h1.cnt⟩,fun K' o' hm=>?_⟩;rcases List.mem_cons.1 hm with e|e
 ·simp only[Prod.mk.injEq] at e;obtain⟨rfl,rfl⟩:=e;exact⟨hb.z,hb.wt,hp⟩
 ·have h2:=h.ex K' o' (List.mem_cons_of_mem _ e);exact⟨h2.z,h2.wt,(hk _ (hX K' o' e)).trans h2.at_⟩
end
def z58(r:Ans)(a:Option Addr)(c:Nat):Obj := .cells #[.bool r.ok,.int .i64 r.n,.slice a 0 c] 42 (0,0)
def z7o(P:P8)(jj b off len cap:Nat)(o:OpD):Nat→Option Value
 | 0=>some (.agg #[gpv P.wa,gpv P.fa,gpv P.ba])|1=>some (.slice (some ⟨b,off,none⟩) len cap)|2=>some (.int .i64 jj)|3=>some (.pointer (some ⟨b,off+jj*4,none⟩))|4=>some (opV o)
 | _=>none
structure I19(P:P8)(X:List (Nat×Obj))(w0:World)(jj b off len cap n:Nat)(s:za7)(s2:za7)(o:OpD)(z:Nat→Value)(qz:Array Bool)(x:Nat→Value)(oz ow:Nat→Owner)(w:World):Prop where
 xs:∀j,j<12→x j=z j
 tab:Tab (z7o P jj b off len cap o) 94 qz x
 ks:KE P X w0 n (if qz.getD 5 false=true then(zbo s o).2 else s) s2 oz ow w
 c5:qz.getD 5 false=true→∃a c,x 99=zf9 (zbo s o).1 (.slice a 0 c)
 c6:qz.getD 6 false=true→∃K,x 12 = .pointer (some ⟨K,0,none⟩)∧w0.heap.size≤K∧BlkAt (mk P.sb oz) ow w K zvc∧∀K' o',(K',o')∈X→K'≠K
section
variable{P:P8}{X:List (Nat×Obj)}{w0 w w':World}{jj b off len cap n:Nat}{s s2:za7}{o:OpD}{z x:Nat→Value}{qz:Array Bool}{oz ow oz' ow':Nat→Owner}
theorem I19.put(h:I19 P X w0 jj b off len cap n s s2 o z qz x oz ow w){i:Nat}{u:Value}(hi:i<5)(ht:z7o P jj b off len cap o i=some u):I19 P X w0 jj b off len cap n s s2 o z (qz.setIfInBounds i true) (upd x (94+i) u) oz ow w:=by
 refine⟨fun j hj=>by rw[upd_ne _ _ (by omega)];exact h.xs j hj,h.tab.put (.inl ht),?_,fun q=>?_,fun q=>?_⟩
 ·rw[zar (by omega)];exact h.ks
 ·rw[upd_ne _ _ (by omega)];exact h.c5 (by rwa[zar (by omega)] at q)
 ·rw[upd_ne _ _ (by omega)];exact h.c6 (by rwa[zar (by omega)] at q)
end
section
variable{P:P8}{X:List (Nat×Obj)}{Z:Machine→Trace→Prop}{cs:List Frame}{w0 w:World}{jj b off len cap n ka:Nat}{s s2:za7}{o:OpD}{z:Nat→Value}{oz ow:Nat→Owner}{R:List Item}
theorem z54(ho:o.Ok)(hn:n+ze2 s o<4611686018427387904)(hjl:jj<len)(hl9:len≤9223372036854775807)(hops:zj2 w0 b (off+jj*4) o)
  (z5:z 5 = .slice (some ⟨b,off,none⟩) len cap) (zk:z 8 = .pointer (some ⟨ka,0,none⟩)) (hka:(ka,thO P.wa P.fa P.ba)∈X) (z11:z 11 = .int .i64 jj) (I:KE P X w0 n s s2 oz ow w)
  (qu:∀x oz ow w' K a c,(∀j,j<12→x j=z j)→x 12 = .pointer (some ⟨K,0,none⟩)→KE P ((K,z58 (zbo s o).1 a c)::X) w0 n (zbo s o).2 s2 oz ow w'→RM Try.prog Z (G ((base 8).at (A8 x) R) cs) w') :
  RM Try.prog Z (G ((base 8).at (A8 z) (.code z4v::R)) cs) w:=by
 replace qu:=yay qu;obtain⟨o0,o1,o2,o3⟩:=hops;have hlt':(jj:Int)<(len:Int):=by omega
 have hj0:(0:Int)≤(jj:Int):=by omega
 rw[show z4v=Code.region _ _ _ from rfl]
 refine zht rm_xc 7 [[7]] rfl (by kernel_rfl) (zb1 _) (fun qz a w=>∃x oz ow,a=A8 x∧I19 P X w0 jj b off len cap n s s2 o z qz x oz ow w) ?i0 ?ie ?ist
 case i0 =>
  refine⟨z,oz,ow,rfl,fun _ _=>rfl,.zero,?_,fun q=>(by rw[getD_replicate_false] at q;cases q),fun q=>(by rw[getD_replicate_false] at q;cases q)⟩;rw[getD_replicate_false];exact I
 case ie =>
  rintro a w3 ⟨x,oz3,ow3,rfl,hI⟩ r hr;obtain rfl:r=[7]:=by simpa using hr
  obtain⟨a1,c1,t5⟩:=hI.c5 rfl;obtain⟨K,t6,hK,hK1,hKX⟩:=hI.c6 rfl;have hks:KE P X w0 n (zbo s o).2 s2 oz3 ow3 w3:=hI.ks;have hxs:=hI.xs;clear hI hr o0 o1 o2 o3;generalize (zbo s o).1=rr at *;refine zs1 (rest:=[]) (by decide) [7] [_] rfl (zai (by kernel_rfl)) fun wp hp=>?_;have gk:wp.heap[K]?=some zvc:=(congrArg (·[K]?) hp.heap).trans hK1.at_;unfold zvc at gk;have k0:=zab gk 0;have k1:=zab gk 1;have k2:=zab gk 2;have f0:=zam gk 0;have f1:=zam gk 1;have f2:=zam gk 2;simp only[yac,yaa,yab] at k0 k1 k2;replace gk:=yay gk;replace hp:=yay hp;replace hxs:=yay hxs;clear z5 zk z11 hlt' hj0 hn hl9;unfold A8;simp only[t5,t6];unfold zf9
  go_wp2_with fail
  refine zbp rfl fun w4 h4=>?_;have h4':Sim w4 (zkk wp K rr (.slice a1 0 c1)):=h4;have e4:w4.heap=(zkk wp K rr (.slice a1 0 c1)).heap:=h4'.heap;have o4:w4.os=w3.os∧w4.output=w3.output:=⟨h4'.outs.1.trans ((ziy _ _ _ _).1.trans hp.out.outs.1),h4'.outs.2.trans ((ziy _ _ _ _).2.trans hp.out.outs.2)⟩;clear h4 h4';have ek:w4.heap[K]?=some (z58 rr a1 c1):=by rw[e4];exact zn5 gk.out rfl rr _
  have oth:∀b,b≠K→w4.heap[b]?=w3.heap[b]?:=fun b h1=>by rw[e4,zhd h1,hp.out.heap]
  have sz:w4.heap.size=w3.heap.size:=by rw[e4,zix,hp.out.heap]
  clear e4 hp gk k0 k1 k2 f0 f1 f2;refine zad rm_xc ?_;rw[zh8 _ rfl];have hk2:KE P ((K,zvc)::X) w0 _ _ _ oz3 ow3 w3:=⟨hks.ks,fun K' o' hm=>by
   rcases List.mem_cons.1 hm with e|e
   ·simp only[Prod.mk.injEq] at e;obtain⟨rfl,rfl⟩:=e;exact hK1
   ·exact hks.ex K' o' e⟩
  refine qu.out _ oz3 ow3 w4 K a1 c1 ?xs ?x9 (hk2.set hKX hK sz o4 oth ek)
  case x9=>rfl
  case xs =>
   intro j hj;rcases j with _|_|_|_|_|_|_|_|_|_|_|_|j<;>first|(exact hxs.out _ (by decide))|omega
 case ist =>
  rintro qz i hi8 hir a w3 r ⟨x,oz3,ow3,rfl,hI⟩ qy;obtain⟨hun,op,hop,qx⟩:=mem_ready.1 hir;have x5:x 5 = .slice (some ⟨b,off,none⟩) len cap:=(hI.xs 5 (by decide)).trans z5;have xk:x 8 = .pointer (some ⟨ka,0,none⟩):=(hI.xs 8 (by decide)).trans zk;have x11:x 11 = .int .i64 jj:=(hI.xs 11 (by decide)).trans z11;have gka:=(hI.ks.ex ka _ hka).at_;have kk:Hid (∀wp:World,Sim wp w3→wp.cell? ⟨ka,0,none⟩=some (gpv P.wa)∧wp.cell? ⟨ka,1,none⟩=some (gpv P.fa)∧wp.cell? ⟨ka,2,none⟩=some (gpv P.ba)):=yay fun wp hp=>by
   have g:=(congrArg (·[ka]?) hp.heap).trans gka;exact⟨zab g 0,zab g 1,zab g 2⟩
  have cc:∀i v,w0.cell? ⟨b,i,none⟩=some v→∀wp:World,Sim wp w3→wp.cell? ⟨b,i,none⟩=some v:=fun i v q wp hp=>by
   refine(World.cell?_of_block (w:=w0) ?_).trans q;show wp.heap[b]?=w0.heap[b]?;rw[hp.heap];exact hI.ks.ks.ns.l.same b (World.block_lt_of_cell? w0 _ q)
  have q0:=cc _ _ o0;have q1:=cc _ _ o1;have q2:=cc _ _ o2;have q3:=cc _ _ o3;replace q0:=yay q0;replace q1:=yay q1;replace q2:=yay q2;replace q3:=yay q3;clear cc o0 o1 o2 o3 gka;have hcase:i=0∨i=1∨i=2∨i=3∨i=4∨i=5∨i=6:=by omega
  rcases hcase with rfl|rfl|rfl|rfl|rfl|rfl|rfl
  ·refine zei rfl rfl (by decide) (zai (l:=[_]) (by kernel_rfl) _ (yaj.2 rfl)) (v := .agg #[gpv P.wa,gpv P.fa,gpv P.ba]) (fun wp hp=>by
    obtain⟨k0,k1,k2⟩:=kk.out wp hp;unfold A8
    try unfold gpv opV at *
    go_simp<;>rfl) ?_
   exact qy (A8 (upd x 94 (.agg #[gpv P.wa,gpv P.fa,gpv P.ba]))) w3 ⟨_,oz3,ow3,rfl,hI.put (i:=0) (by omega) rfl⟩
  ·refine zei rfl rfl (by decide) (zai (l:=[_]) (by kernel_rfl) _ (yaj.2 rfl)) (v := .slice (some ⟨b,off,none⟩) len cap) (fun wp hp=>by
    unfold A8
    try unfold gpv opV at *
    go_simp<;>rfl) ?_
   exact qy (A8 (upd x 95 (.slice (some ⟨b,off,none⟩) len cap))) w3 ⟨_,oz3,ow3,rfl,hI.put (i:=1) (by omega) rfl⟩
  ·refine zei rfl rfl (by decide) (zai (l:=[_]) (by kernel_rfl) _ (yaj.2 rfl)) (v := .int .i64 jj) (fun wp hp=>by
    unfold A8
    try unfold gpv opV at *
    go_simp<;>rfl) ?_
   exact qy (A8 (upd x 96 (.int .i64 jj))) w3 ⟨_,oz3,ow3,rfl,hI.put (i:=2) (by omega) rfl⟩
  ·have hop':=yaw hop;subst hop';have d1:qz.getD 1 false=true:=qx ⟨1,.data⟩ (by simp) rfl;have t1:=hI.tab 1 _ rfl d1;simp only[Nat.reduceAdd] at t1;have d2:qz.getD 2 false=true:=qx ⟨2,.data⟩ (by simp) rfl;have t2:=hI.tab 2 _ rfl d2;simp only[Nat.reduceAdd] at t2;refine zei rfl rfl (by decide) (zai (l:=[_]) (by kernel_rfl) _ (yaj.2 rfl)) (v := .pointer (some ⟨b,off+jj*4,none⟩)) (fun wp hp=>by
    unfold A8
    try unfold gpv opV at *
    go_simp<;>rfl) ?_
   exact qy (A8 (upd x 97 (.pointer (some ⟨b,off+jj*4,none⟩)))) w3 ⟨_,oz3,ow3,rfl,hI.put (i:=3) (by omega) rfl⟩
  ·have hop':=yaw hop;subst hop';have d3:qz.getD 3 false=true:=qx ⟨3,.data⟩ (by simp) rfl;have t3:=hI.tab 3 _ rfl d3;simp only[Nat.reduceAdd] at t3;refine zei rfl rfl (by decide) (zai (l:=[_]) (by kernel_rfl) _ (yaj.2 rfl)) (v:=opV o) (fun wp hp=>by
    have k0:=q0.out wp hp;have k1:=q1.out wp hp;have k2:=q2.out wp hp;have k3:=q3.out wp hp;unfold A8
    try unfold gpv opV at *
    go_simp<;>rfl) ?_
   exact qy (A8 (upd x 98 (opV o))) w3 ⟨_,oz3,ow3,rfl,hI.put (i:=4) (by omega) rfl⟩
  ·have hop':=yaw hop;subst hop';have d0:qz.getD 0 false=true:=qx ⟨0,.data⟩ (by simp) rfl;have d1:qz.getD 4 false=true:=qx ⟨4,.data⟩ (by simp) rfl;have t0:x 94 = .agg #[gpv P.wa,gpv P.fa,gpv P.ba]:=hI.tab 0 _ rfl d0;have t1:x 98=opV o:=hI.tab 4 _ rfl d1;have hno:qz.getD 5 false=false:=getD_both hun;obtain⟨qp,_⟩:=zh4 hun;have hself:(qz.setIfInBounds 5 true).getD 5 false=true:=by simp[Array.getD,qp]
   have hks:=hI.ks;simp only[hno,Bool.false_eq_true,if_false] at hks;refine zap rm_xc rfl rfl (by decide) rfl Try.func35 (by kernel_rfl) (by kernel_rfl) ?_;unfold A8;simp only[t0,t1];walk_nrm;refine zyq hks.ks.ns.z ho fun oz4 w4 v G4 L4 hrow hnew=>?_;rw[Frame.finish_at];walk_nrm;rw[←t0,←t1];have hns:=hks.stepZ G4 L4;have hk:∀b,b<w3.heap.size→mk P.sb oz3 b = .out→ow3 b = .out→(mk P.sb oz4 b = .out∧ow3 b = .out)∧w4.heap[b]?=w3.heap[b]?:=fun b hb h1 h2=>⟨⟨mk_out.2 ⟨(mk_out.1 h1).1,(L4.same b hb (mk_out.1 h1).2).1⟩,h2⟩,(L4.same b hb (mk_out.1 h1).2).2⟩;obtain⟨va,vc,rfl⟩:=zbe hrow.row;refine qy (A8 (upd x 99 (zf9 (zbo s o).1 (.slice va 0 vc)))) w4 ⟨_,oz4,ow3,rfl,fun j hj=>by rw[upd_ne _ _ (by omega)];exact hI.xs j hj,hI.tab.put (i:=5) (.inr rfl),?_,fun _=>⟨va,vc,upd_same _ _ _⟩,fun q=>?_⟩
   ·simp only[hself,if_true];exact hns
   ·rw[upd_ne _ _ (by decide)];exact(hI.c6 (by rwa[zar (by decide)] at q)).imp fun K ⟨e,e1,e2,e3⟩=>⟨e,e1,e2.keep hk,e3⟩
  ·clear x5 xk x11 q0 q1 q2 q3;have hsbl:=hI.ks.ks.lt;have hlo:=hI.ks.ks.lo;refine zs1 (rest:=r) (by decide) [6] [_] rfl (zai (by kernel_rfl)) fun wp hp=>?_;have qp:wp.heap.size=w3.heap.size:=by rw[hp.heap]
   replace hp:=yay hp;replace qp:=yay qp;unfold A8
   go_wp2_with fail
   refine zbp rfl fun w4 h4=>?_;have L4:LeftW w3 w4:=((LeftW.of_sim hp.out.heap hp.out.outs).alloc _).sim h4;have hnew:w4.heap[w3.heap.size]?=some zvc:=by rw[h4.heap,←qp.out];exact heap_alloc_new _ _
   rw[qp.out];have hns:=hI.ks.left L4;have hb:BlkAt (mk P.sb oz3) ow3 w4 w3.heap.size zvc:=⟨mk_out.2 ⟨by omega,hI.ks.ks.ns.z.new _ (yax _)⟩,hI.ks.ks.ns.wt.new _ (yax _),hnew⟩;clear h4 hp qp wp;refine qy (A8 (upd x 12 (.pointer (some ⟨w3.heap.size,0,none⟩)))) w4 ⟨_,oz3,ow3,rfl,fun j hj=>by rw[upd_ne _ _ (by omega)];exact hI.xs j hj,fun j u hj hl=>?_,?_,fun q=>by rw[upd_ne _ _ (by decide)];exact hI.c5 (by rwa[zar (by decide)] at q),fun _=>⟨w3.heap.size,upd_same _ _ _,by omega,hb,fun K' o' hm q=>?_⟩⟩
   ·have hji:j≠6:=fun z=>by rw[z] at hj;cases hj
    rw[zar hji] at hl;rw[upd_ne _ _ (by omega)];exact hI.tab j u hj hl
   ·rw[zar (by decide)];exact hns
   ·have:=(yah.1 (hI.ks.ex K' o' hm).at_).1;omega
end
def z7n(P:P8)(jj b off len cap:Nat)(o:OpD):Nat→Option Value
 | 0=>some (.agg #[gpv P.wb,gpv P.fb,gpv P.bb])|1=>some (.pointer (some ⟨P.sb,0,none⟩))|2=>some (.iface 81 (.pointer (some ⟨P.sb,0,none⟩)))|3=>some (.slice (some ⟨b,off,none⟩) len cap)|4=>some (.int .i64 jj)|5=>some (.pointer (some ⟨b,off+jj*4,none⟩))|6=>some (opV o)
 | _=>none
structure I20(P:P8)(X:List (Nat×Obj))(w0:World)(jj b off len cap n:Nat)(s:za7)(s2:za7)(o:OpD)(z:Nat→Value)(qz:Array Bool)(x:Nat→Value)(oz ow:Nat→Owner)(w:World):Prop where
 xs:∀j,j<13→x j=z j
 tab:Tab (z7n P jj b off len cap o) 100 qz x
 ks:KE P X w0 (if qz.getD 7 false=true then n+ze2 s o else n) s2 (if qz.getD 7 false=true then(zbo s o).2 else s) oz ow w
 c5:qz.getD 7 false=true→∃a c,x 107=zf9 (zbo s o).1 (.slice a 0 c)
 c6:qz.getD 8 false=true→∃K,x 13 = .pointer (some ⟨K,0,none⟩)∧w0.heap.size≤K∧BlkAt (mk P.sb oz) ow w K zvc∧∀K' o',(K',o')∈X→K'≠K
section
variable{P:P8}{X:List (Nat×Obj)}{w0 w w':World}{jj b off len cap n:Nat}{s s2:za7}{o:OpD}{z x:Nat→Value}{qz:Array Bool}{oz ow oz' ow':Nat→Owner}
theorem I20.put(h:I20 P X w0 jj b off len cap n s s2 o z qz x oz ow w){i:Nat}{u:Value}(hi:i<7)(ht:z7n P jj b off len cap o i=some u):I20 P X w0 jj b off len cap n s s2 o z (qz.setIfInBounds i true) (upd x (100+i) u) oz ow w:=by
 refine⟨fun j hj=>by rw[upd_ne _ _ (by omega)];exact h.xs j hj,h.tab.put (.inl ht),?_,fun q=>?_,fun q=>?_⟩
 ·rw[zar (by omega)];exact h.ks
 ·rw[upd_ne _ _ (by omega)];exact h.c5 (by rwa[zar (by omega)] at q)
 ·rw[upd_ne _ _ (by omega)];exact h.c6 (by rwa[zar (by omega)] at q)
end
section
variable{P:P8}{X:List (Nat×Obj)}{Z:Machine→Trace→Prop}{cs:List Frame}{w0 w:World}{jj b off len cap n ka:Nat}{s s2:za7}{o:OpD}{z:Nat→Value}{oz ow:Nat→Owner}{R:List Item}
theorem z53(ho:o.Ok)(hn:n+ze2 s o<4611686018427387904)(hjl:jj<len)(hl9:len≤9223372036854775807)(hops:zj2 w0 b (off+jj*4) o)
  (z5:z 5 = .slice (some ⟨b,off,none⟩) len cap) (zk:z 9 = .pointer (some ⟨ka,0,none⟩)) (hka:(ka,thO P.wb P.fb P.bb)∈X) (z10:z 10 = .pointer (some ⟨P.sb,0,none⟩)) (z11:z 11 = .int .i64 jj) (I:KE P X w0 n s2 s oz ow w)
  (qu:∀x oz ow w' K a c,(∀j,j<13→x j=z j)→x 13 = .pointer (some ⟨K,0,none⟩)→KE P ((K,z58 (zbo s o).1 a c)::X) w0 (n+ze2 s o) s2 (zbo s o).2 oz ow w'→RM Try.prog Z (G ((base 8).at (A8 x) R) cs) w') :
  RM Try.prog Z (G ((base 8).at (A8 z) (.code z4u::R)) cs) w:=by
 replace qu:=yay qu;obtain⟨o0,o1,o2,o3⟩:=hops;have hlt':(jj:Int)<(len:Int):=by omega
 have hj0:(0:Int)≤(jj:Int):=by omega
 rw[show z4u=Code.region _ _ _ from rfl]
 refine zht rm_xc 9 [[9]] rfl (by kernel_rfl) (zb1 _) (fun qz a w=>∃x oz ow,a=A8 x∧I20 P X w0 jj b off len cap n s s2 o z qz x oz ow w) ?i0 ?ie ?ist
 case i0 =>
  refine⟨z,oz,ow,rfl,fun _ _=>rfl,.zero,?_,fun q=>(by rw[getD_replicate_false] at q;cases q),fun q=>(by rw[getD_replicate_false] at q;cases q)⟩;rw[getD_replicate_false];exact I
 case ie =>
  rintro a w3 ⟨x,oz3,ow3,rfl,hI⟩ r hr;obtain rfl:r=[9]:=by simpa using hr
  obtain⟨a1,c1,t5⟩:=hI.c5 rfl;obtain⟨K,t6,hK,hK1,hKX⟩:=hI.c6 rfl;have hks:KE P X w0 (n+ze2 s o) s2 (zbo s o).2 oz3 ow3 w3:=hI.ks;have hxs:=hI.xs;clear hI hr o0 o1 o2 o3;generalize (zbo s o).1=rr at *;refine zs1 (rest:=[]) (by decide) [9] [_] rfl (zai (by kernel_rfl)) fun wp hp=>?_;have gk:wp.heap[K]?=some zvc:=(congrArg (·[K]?) hp.heap).trans hK1.at_;unfold zvc at gk;have k0:=zab gk 0;have k1:=zab gk 1;have k2:=zab gk 2;have f0:=zam gk 0;have f1:=zam gk 1;have f2:=zam gk 2;simp only[yac,yaa,yab] at k0 k1 k2;replace gk:=yay gk;replace hp:=yay hp;replace hxs:=yay hxs;clear z5 zk z10 z11 hlt' hj0 hn hl9;unfold A8;simp only[t5,t6];unfold zf9
  go_wp2_with fail
  refine zbp rfl fun w4 h4=>?_;have h4':Sim w4 (zkk wp K rr (.slice a1 0 c1)):=h4;have e4:w4.heap=(zkk wp K rr (.slice a1 0 c1)).heap:=h4'.heap;have o4:w4.os=w3.os∧w4.output=w3.output:=⟨h4'.outs.1.trans ((ziy _ _ _ _).1.trans hp.out.outs.1),h4'.outs.2.trans ((ziy _ _ _ _).2.trans hp.out.outs.2)⟩;clear h4 h4';have ek:w4.heap[K]?=some (z58 rr a1 c1):=by rw[e4];exact zn5 gk.out rfl rr _
  have oth:∀b,b≠K→w4.heap[b]?=w3.heap[b]?:=fun b h1=>by rw[e4,zhd h1,hp.out.heap]
  have sz:w4.heap.size=w3.heap.size:=by rw[e4,zix,hp.out.heap]
  clear e4 hp gk k0 k1 k2 f0 f1 f2;refine zad rm_xc ?_;rw[zh8 _ rfl];have hk2:KE P ((K,zvc)::X) w0 _ _ _ oz3 ow3 w3:=⟨hks.ks,fun K' o' hm=>by
   rcases List.mem_cons.1 hm with e|e
   ·simp only[Prod.mk.injEq] at e;obtain⟨rfl,rfl⟩:=e;exact hK1
   ·exact hks.ex K' o' e⟩
  refine qu.out _ oz3 ow3 w4 K a1 c1 ?xs ?x9 (hk2.set hKX hK sz o4 oth ek)
  case x9=>rfl
  case xs =>
   intro j hj;rcases j with _|_|_|_|_|_|_|_|_|_|_|_|_|j<;>first|(exact hxs.out _ (by decide))|omega
 case ist =>
  rintro qz i hi8 hir a w3 r ⟨x,oz3,ow3,rfl,hI⟩ qy;obtain⟨hun,op,hop,qx⟩:=mem_ready.1 hir;have x5:x 5 = .slice (some ⟨b,off,none⟩) len cap:=(hI.xs 5 (by decide)).trans z5;have xk:x 9 = .pointer (some ⟨ka,0,none⟩):=(hI.xs 9 (by decide)).trans zk;have x10:x 10 = .pointer (some ⟨P.sb,0,none⟩):=(hI.xs 10 (by decide)).trans z10;have x11:x 11 = .int .i64 jj:=(hI.xs 11 (by decide)).trans z11;have gka:=(hI.ks.ex ka _ hka).at_;have kk:Hid (∀wp:World,Sim wp w3→wp.cell? ⟨ka,0,none⟩=some (gpv P.wb)∧wp.cell? ⟨ka,1,none⟩=some (gpv P.fb)∧wp.cell? ⟨ka,2,none⟩=some (gpv P.bb)):=yay fun wp hp=>by
   have g:=(congrArg (·[ka]?) hp.heap).trans gka;exact⟨zab g 0,zab g 1,zab g 2⟩
  have cc:∀i v,w0.cell? ⟨b,i,none⟩=some v→∀wp:World,Sim wp w3→wp.cell? ⟨b,i,none⟩=some v:=fun i v q wp hp=>by
   refine(World.cell?_of_block (w:=w0) ?_).trans q;show wp.heap[b]?=w0.heap[b]?;rw[hp.heap];exact hI.ks.ks.ns.l.same b (World.block_lt_of_cell? w0 _ q)
  have q0:=cc _ _ o0;have q1:=cc _ _ o1;have q2:=cc _ _ o2;have q3:=cc _ _ o3;replace q0:=yay q0;replace q1:=yay q1;replace q2:=yay q2;replace q3:=yay q3;clear cc o0 o1 o2 o3 gka;have hcase:i=0∨i=1∨i=2∨i=3∨i=4∨i=5∨i=6∨i=7∨i=8:=by omega
  rcases hcase with rfl|rfl|rfl|rfl|rfl|rfl|rfl|rfl|rfl
  ·refine zei rfl rfl (by decide) (zai (l:=[_]) (by kernel_rfl) _ (yaj.2 rfl)) (v := .agg #[gpv P.wb,gpv P.fb,gpv P.bb]) (fun wp hp=>by
    obtain⟨k0,k1,k2⟩:=kk.out wp hp;unfold A8
    try unfold gpv opV at *
    go_simp<;>rfl) ?_
   exact qy (A8 (upd x 100 (.agg #[gpv P.wb,gpv P.fb,gpv P.bb]))) w3 ⟨_,oz3,ow3,rfl,hI.put (i:=0) (by omega) rfl⟩
  ·refine zei rfl rfl (by decide) (zai (l:=[_]) (by kernel_rfl) _ (yaj.2 rfl)) (v := .pointer (some ⟨P.sb,0,none⟩)) (fun wp hp=>by
    unfold A8
    try unfold gpv opV at *
    go_simp<;>rfl) ?_
   exact qy (A8 (upd x 101 (.pointer (some ⟨P.sb,0,none⟩)))) w3 ⟨_,oz3,ow3,rfl,hI.put (i:=1) (by omega) rfl⟩
  ·have hop':=yaw hop;subst hop';have d1:qz.getD 1 false=true:=qx ⟨1,.data⟩ (by simp) rfl;have t1:=hI.tab 1 _ rfl d1;simp only[Nat.reduceAdd] at t1;refine zei rfl rfl (by decide) (zai (l:=[_]) (by kernel_rfl) _ (yaj.2 rfl)) (v := .iface 81 (.pointer (some ⟨P.sb,0,none⟩))) (fun wp hp=>by
    unfold A8
    try unfold gpv opV at *
    go_simp<;>rfl) ?_
   exact qy (A8 (upd x 102 (.iface 81 (.pointer (some ⟨P.sb,0,none⟩))))) w3 ⟨_,oz3,ow3,rfl,hI.put (i:=2) (by omega) rfl⟩
  ·refine zei rfl rfl (by decide) (zai (l:=[_]) (by kernel_rfl) _ (yaj.2 rfl)) (v := .slice (some ⟨b,off,none⟩) len cap) (fun wp hp=>by
    unfold A8
    try unfold gpv opV at *
    go_simp<;>rfl) ?_
   exact qy (A8 (upd x 103 (.slice (some ⟨b,off,none⟩) len cap))) w3 ⟨_,oz3,ow3,rfl,hI.put (i:=3) (by omega) rfl⟩
  ·refine zei rfl rfl (by decide) (zai (l:=[_]) (by kernel_rfl) _ (yaj.2 rfl)) (v := .int .i64 jj) (fun wp hp=>by
    unfold A8
    try unfold gpv opV at *
    go_simp<;>rfl) ?_
   exact qy (A8 (upd x 104 (.int .i64 jj))) w3 ⟨_,oz3,ow3,rfl,hI.put (i:=4) (by omega) rfl⟩
  ·have hop':=yaw hop;subst hop';have d3:qz.getD 3 false=true:=qx ⟨3,.data⟩ (by simp) rfl;have t3:=hI.tab 3 _ rfl d3;simp only[Nat.reduceAdd] at t3;have d4:qz.getD 4 false=true:=qx ⟨4,.data⟩ (by simp) rfl;have t4:=hI.tab 4 _ rfl d4;simp only[Nat.reduceAdd] at t4;refine zei rfl rfl (by decide) (zai (l:=[_]) (by kernel_rfl) _ (yaj.2 rfl)) (v := .pointer (some ⟨b,off+jj*4,none⟩)) (fun wp hp=>by
    unfold A8
    try unfold gpv opV at *
    go_simp<;>rfl) ?_
   exact qy (A8 (upd x 105 (.pointer (some ⟨b,off+jj*4,none⟩)))) w3 ⟨_,oz3,ow3,rfl,hI.put (i:=5) (by omega) rfl⟩
  ·have hop':=yaw hop;subst hop';have d5:qz.getD 5 false=true:=qx ⟨5,.data⟩ (by simp) rfl;have t5:=hI.tab 5 _ rfl d5;simp only[Nat.reduceAdd] at t5;refine zei rfl rfl (by decide) (zai (l:=[_]) (by kernel_rfl) _ (yaj.2 rfl)) (v:=opV o) (fun wp hp=>by
    have k0:=q0.out wp hp;have k1:=q1.out wp hp;have k2:=q2.out wp hp;have k3:=q3.out wp hp;unfold A8
    try unfold gpv opV at *
    go_simp<;>rfl) ?_
   exact qy (A8 (upd x 106 (opV o))) w3 ⟨_,oz3,ow3,rfl,hI.put (i:=6) (by omega) rfl⟩
  ·have hop':=yaw hop;subst hop';have d0:qz.getD 0 false=true:=qx ⟨0,.data⟩ (by simp) rfl;have d1:qz.getD 6 false=true:=qx ⟨6,.data⟩ (by simp) rfl;have t0:x 100 = .agg #[gpv P.wb,gpv P.fb,gpv P.bb]:=hI.tab 0 _ rfl d0;have t1:x 106=opV o:=hI.tab 6 _ rfl d1;have d2:qz.getD 2 false=true:=qx ⟨2,.data⟩ (by simp) rfl;have t2:x 102 = .iface 81 (.pointer (some ⟨P.sb,0,none⟩)):=hI.tab 2 _ rfl d2;have hno:qz.getD 7 false=false:=getD_both hun;obtain⟨qp,_⟩:=zh4 hun;have hself:(qz.setIfInBounds 7 true).getD 7 false=true:=by simp[Array.getD,qp]
   have hks:=hI.ks;simp only[hno,Bool.false_eq_true,if_false] at hks;refine zap rm_xc rfl rfl (by decide) rfl Try.func35 (by kernel_rfl) (by kernel_rfl) ?_;unfold A8;simp only[t0,t1,t2];walk_nrm;refine zyr hks.ks.ns.wt ho hks.ks.sw hks.ks.cnt hn fun ow4 w4 v G4 L4 hcnt hrow hnew=>?_;rw[Frame.finish_at];walk_nrm;rw[←t0,←t1,←t2];have hns:=hks.stepC G4 L4 hcnt;have hk:∀b,b<w3.heap.size→mk P.sb oz3 b = .out→ow3 b = .out→(mk P.sb oz3 b = .out∧ow4 b = .out)∧w4.heap[b]?=w3.heap[b]?:=fun b hb h1 h2=>⟨⟨h1,(L4.same b hb (mk_out.1 h1).1 h2).1⟩,(L4.same b hb (mk_out.1 h1).1 h2).2⟩;obtain⟨va,vc,rfl⟩:=zbe hrow.row;refine qy (A8 (upd x 107 (zf9 (zbo s o).1 (.slice va 0 vc)))) w4 ⟨_,oz3,ow4,rfl,fun j hj=>by rw[upd_ne _ _ (by omega)];exact hI.xs j hj,hI.tab.put (i:=7) (.inr rfl),?_,fun _=>⟨va,vc,upd_same _ _ _⟩,fun q=>?_⟩
   ·simp only[hself,if_true];exact hns
   ·rw[upd_ne _ _ (by decide)];exact(hI.c6 (by rwa[zar (by decide)] at q)).imp fun K ⟨e,e1,e2,e3⟩=>⟨e,e1,e2.keep hk,e3⟩
  ·clear x5 xk x10 x11 q0 q1 q2 q3;have hsbl:=hI.ks.ks.lt;have hlo:=hI.ks.ks.lo;refine zs1 (rest:=r) (by decide) [8] [_] rfl (zai (by kernel_rfl)) fun wp hp=>?_;have qp:wp.heap.size=w3.heap.size:=by rw[hp.heap]
   replace hp:=yay hp;replace qp:=yay qp;unfold A8
   go_wp2_with fail
   refine zbp rfl fun w4 h4=>?_;have L4:LeftW w3 w4:=((LeftW.of_sim hp.out.heap hp.out.outs).alloc _).sim h4;have hnew:w4.heap[w3.heap.size]?=some zvc:=by rw[h4.heap,←qp.out];exact heap_alloc_new _ _
   rw[qp.out];have hns:=hI.ks.left L4;have hb:BlkAt (mk P.sb oz3) ow3 w4 w3.heap.size zvc:=⟨mk_out.2 ⟨by omega,hI.ks.ks.ns.z.new _ (yax _)⟩,hI.ks.ks.ns.wt.new _ (yax _),hnew⟩;clear h4 hp qp wp;refine qy (A8 (upd x 13 (.pointer (some ⟨w3.heap.size,0,none⟩)))) w4 ⟨_,oz3,ow3,rfl,fun j hj=>by rw[upd_ne _ _ (by omega)];exact hI.xs j hj,fun j u hj hl=>?_,?_,fun q=>by rw[upd_ne _ _ (by decide)];exact hI.c5 (by rwa[zar (by decide)] at q),fun _=>⟨w3.heap.size,upd_same _ _ _,by omega,hb,fun K' o' hm q=>?_⟩⟩
   ·have hji:j≠8:=fun z=>by rw[z] at hj;cases hj
    rw[zar hji] at hl;rw[upd_ne _ _ (by omega)];exact hI.tab j u hj hl
   ·rw[zar (by decide)];exact hns
   ·have:=(yah.1 (hI.ks.ex K' o' hm).at_).1;omega
end
theorem zr1(v:ByteArray)(w:World):Calls Try.prog 90 #[.string v] w fun e w'=>e = .returned (.pointer (some ⟨w.heap.size,0,none⟩))∧(w.alloc (.cells #[.pointer (some ⟨w.heap.size+1,0,none⟩)] 245)).alloc (.cells #[.string v,.int .i64 0] 248)=w':=by
 have s1:(w.alloc (.cells #[.pointer none] 245)).heap.size=w.heap.size+1:=by simp
 have hk:=heap_alloc_new (w.alloc (.cells #[.pointer none] 245)) (.cells #[.string v,.int .i64 0] 248);rw[s1] at hk;have hc:((w.alloc (.cells #[.pointer none] 245)).alloc (.cells #[.string v,.int .i64 0] 248)).heap[w.heap.size]?=some (.cells #[.pointer none] 245 (0,0)):=(Below.heap_alloc _ _ _ (by rw[s1];omega)).trans (heap_alloc_new w _);have h1:=SB.ptrStoreI w.heap.size 0 (p:=none) (q:=some ⟨w.heap.size+1,0,none⟩) (v:=v) ((w.alloc (.cells #[.pointer none] 245)).alloc (.cells #[.string v,.int .i64 0] 248)) (by rw[zab hc 0];rfl) (zam hc 0) (.inr ⟨_,rfl,hk⟩);rw[znk] at h1;replace hk:=yay hk;replace hc:=yay hc;go_enter Try.func90,Try.ntmps90
 go_wp2_with (go_at_call 144;refine h1.mono ?_;rintro e w' ⟨rfl,rfl⟩)
 go_ret
 exact⟨rfl,rfl⟩
theorem znz(b:Nat){p:Option Addr}{v:ByteArray}(w:World)(hc:w.cell? ⟨b,0,none⟩=some (.pointer p))(hk:SB.KeptI w p v):Calls Try.prog 94 #[.pointer (some ⟨b,0,none⟩)] w fun e w'=>e = .returned (.string v)∧w=w':=by
 have h0:=SB.ptrLoadI b 0 w hc hk;have h1:=SB.valueI_walk w hk;have hne:∀w:World,(binOp .eql 169 (.pointer (some ⟨b,0,none⟩)) (.pointer none)).run Try.prog w = .ok (.bool false) w:=fun w=>by rfl
 clear hc hk;go_enter Try.func94,Try.ntmps94
 go_wp2_with (first|(go_at_call 145;refine h0.mono ?_;rintro e w' ⟨rfl,rfl⟩)|(go_at_call 146;refine h1.mono ?_;rintro e w' ⟨rfl,rfl⟩))
 go_ret
 exact⟨rfl,rfl⟩
section
variable{Z:Machine→Trace→Prop}{c:Frame}{cs:List Frame}{b:Nat}{V:SB.BoxS}{own:Nat→Owner}{w:World}
theorem famStr:zq1 (fun V=>SB.BAt 0 b V) (·=b):=⟨⟨fun{s own own' w w'} h hs ht hn=>by
  obtain⟨p,c1,_⟩:=h.cell;exact h.keep (hs _ _ _ _ h.sh c1 (by decide) (by decide)) ht hn⟩,fun{s own w} h a (ha:a=b)=>by
  subst ha;obtain⟨p,c1,_⟩:=h.cell;exact⟨h.sh,(yah.1 c1).1⟩,fun h hk ht hn=>h.keep (hk b rfl) ht hn⟩
theorem zwr{Q:Nat→SM SB.BoxS→Prop}{o:Os×Array (Nat×ByteArray)}:Part (zo4 (zo6 (fun V=>SB.BAt 0 b V)) 0 Z Q o) (idL SB.BoxS) (SB.BAt 0 b) b TS2:=⟨fun h=>h,fun _ _ h=>h⟩
theorem SB.HeldC.kept2{own:Nat→Owner}{i s:Nat}{v:ByteArray}{p:Option Addr}(h:SB.HeldC own w.heap i s v p):SB.KeptI w p v:=h.kept fun _ _=>rfl
theorem SB.HeldC.tags{own own':Nat→Owner}{w w':World}{i s:Nat}{v:ByteArray}{p:Option Addr}(h:SB.HeldC own w.heap i s v p)(ht:Tags own own' w w'):SB.HeldC own' w'.heap i s v p:=h.keep fun b v h0 hb=>ht b v h0 hb
open Classical in
theorem zpu(G0:FW (fun V=>SB.BAt 0 b V) (·=b) V own w)(h:∀p own' w',FW (fun V=>SB.BAt 0 b V) (·=b) V own' w'→Left own own' w w'→Tags own own' w w'→SB.HeldC own' w'.heap 0 V.ser V.v p→RM Try.prog Z (G (c.finish (.agg #[.pointer p,gpv b])) cs) w') :
  RM Try.prog Z (G (Frame.enter Try.prog 91 #[gpv b,.nilIface] .normal) (c::cs)) w:=by
 refine z6v (Q:=fun _ m=>m=⟨V,fun _=>[]⟩) (o:=(w.os,w.output)) (φ:=SB.xloadF (idL SB.BoxS) fun s v=>if s=V.ser∧v=V.v then zqm else zi6) (m:=⟨V,fun _=>[]⟩) (x:=0) (own:=zfb own w.heap.size) (A:=fun _=>False) (w₀:=⟨w.heap,⟨V,fun _=>[]⟩,zfb own w.heap.size⟩) (Rep:=zo6 (fun V=>SB.BAt 0 b V)) ?_ ⟨rfl,rfl⟩ (zol (by decide) (by show FF _ (if V.ser=V.ser∧V.v=V.v then zqm else zi6) _ _;rw[if_pos ⟨rfl,rfl⟩];rfl));refine SB.xload_cps (md:=zo4 (zo6 (fun V=>SB.BAt 0 b V)) 0 Z (fun _ m=>m=⟨V,fun _=>[]⟩) (w.os,w.output)) (L:=idL SB.BoxS) (A:=fun _=>False) (w₀:=⟨w.heap,⟨V,fun _=>[]⟩,zfb own w.heap.size⟩) (c:=c) (cs:=cs) (zqb famStr.ok) zwr (κ:=fun s v=>if s=V.ser∧v=V.v then zqm else zi6) trivial (fun s v p A₁ w₁ L1 hH=>?_) _ _ _ _ (G0.ctx famStr.ok);intro y own4 w4 m4 C4 hk hQ;by_cases hr:s=V.ser∧v=V.v
 ·rw[if_pos hr] at hQ;obtain⟨rfl,rfl⟩:=hr;obtain⟨G1,L1',T1⟩:=G0.after famStr C4 L1 (show m4=_ from hQ) hk
  refine h p _ _ G1 L1' T1 (hH.keep fun b' t h0 hb=>?_);obtain⟨q3,q4⟩:=C4.tg b' t hb;refine⟨?_,q4⟩;have hne:¬b'=b:=fun z=>by
   have:=(famStr.sh (s:=m4.st) (own:=own4) (w:=w4) C4.rep b' z).1;rw[this] at q3;cases q3
  unfold zfa;rw[if_neg hne,if_pos ⟨t,h0,q3⟩];exact q3
 ·rw[if_neg hr] at hQ;exact hQ.elim
theorem zlg{s:Nat}{l0 v:ByteArray}{p0:Option Addr}(h0:SB.HeldC own w.heap 0 s l0 p0)(G0:FW (fun V=>SB.BAt 0 b V) (·=b) V own w)(h:∀own' w',FW (fun V=>SB.BAt 0 b V) (·=b) (if V.ser=s then V.lay v else V) own' w'→Left own own' w w'→Tags own own' w w'→RM Try.prog Z (G (c.finish (.bool (decide (V.ser=s)))) cs) w') :
  RM Try.prog Z (G (Frame.enter Try.prog 93 #[gpv b,.nilIface,.agg #[.pointer p0,gpv b],.string v] .normal) (c::cs)) w:=by
 refine zoc famStr (ρ:=Bool) (r0:=decide (V.ser=s)) (V:=fun e => .bool e) (Φ:=fun κ=>stepF (SB.xcasP (idL SB.BoxS) s v κ)) (s':=if V.ser=s then V.lay v else V) G0 (fun{Q o w₀ κ} hw hκ=>SB.xcas_cps (md:=zo4 (zo6 (fun V=>SB.BAt 0 b V)) 0 Z Q o) (l0:=l0) (zqb famStr.ok) zwr (by decide) trivial (by rw[hw];exact h0.keep fun b' t ht hb=>⟨(if_neg fun q=>by rw[hb] at q;cases q.1).trans hb,rfl⟩) trivial fun r=>hκ r) (fun{Q κ} hr=>zol (by omega) ?_) h;show FF Q (SB.xcasP (idL SB.BoxS) s v κ) 1 ⟨V,fun _=>[]⟩;unfold FF SB.xcasP;by_cases e:V.ser=s
 ·rw[if_pos (show((idL SB.BoxS).get (SM.mk V fun _=>[]).st).ser=s from e)]
  have:=hr 1 (by omega);rw[decide_eq_true e,if_pos e] at this;exact this
 ·rw[if_neg (show ¬((idL SB.BoxS).get (SM.mk V fun _=>[]).st).ser=s from e)]
  have:=hr 1 (by omega);rw[decide_eq_false e,if_neg e] at this;exact this
theorem zwv{v:ByteArray}{w':World}{N:Nat}(hN:w.heap.size=N)(h:w'.heap=((w.alloc (.cells #[.pointer (some ⟨w.heap.size+1,0,none⟩)] 245)).alloc (.cells #[.string v,.int .i64 0] 248)).heap) :
  FW (fun V=>SB.BAt 0 N V) (·=N) ⟨v,1,1⟩ (fun x=>if x=N then .sh else if x=N+1 then .tag (zhj 0 1+2) else .out) w'∧(∀x,x<N→w'.heap[x]?=w.heap[x]?)∧w'.heap.size=N+2:=by
 subst hN;have s1:(w.alloc (.cells #[.pointer (some ⟨w.heap.size+1,0,none⟩)] 245)).heap.size=w.heap.size+1:=by simp
 have e1:w'.heap[w.heap.size]?=some (.cells #[.pointer (some ⟨w.heap.size+1,0,none⟩)] 245 (0,0)):=by
  rw[h,Below.heap_alloc _ _ _ (by rw[s1];omega)];exact heap_alloc_new _ _
 have e2:w'.heap[w.heap.size+1]?=some (.cells #[.string v,.int .i64 0] 248 (0,0)):=by
  have:=heap_alloc_new (w.alloc (.cells #[.pointer (some ⟨w.heap.size+1,0,none⟩)] 245)) (.cells #[.string v,.int .i64 0] 248);rw[s1] at this;rw[h];exact this
 have hs:w'.heap.size=w.heap.size+2:=by rw[h];simp
 have htag:∀x t,(if x=w.heap.size then Owner.sh else if x=w.heap.size+1 then .tag (zhj 0 1+2) else .out) = .tag (t+2)→x=w.heap.size+1∧t=zhj 0 1:=fun x t q=>by
  split at q
  ·cases q
  ·split at q
   ·rename_i z;injection q with q;exact⟨z,by omega⟩
   ·cases q
 refine⟨⟨⟨if_pos rfl,⟨_,e1,trivial,.inr ⟨Nat.one_pos,w.heap.size+1,rfl,?_,e2⟩⟩,fun x y t q1 q2=>?_,fun x t q=>?_⟩,fun x hx=>?_,fun x hx=>?_⟩,fun x hx=>?_,hs⟩
 ·dsimp only;rw[if_neg (by omega),if_pos rfl]
 ·rw[(htag x t q1).1,(htag y t q2).1]
 ·rw[(htag x t q).2];show zhj 0 1 / 65536≤1;decide
 ·rw[if_neg (by omega),if_neg (by omega)]
 ·by_cases z:x=w.heap.size
  ·exact .inl z
  ·right;rw[if_neg z] at hx⊢;by_cases y:x=w.heap.size+1
   ·rw[if_pos y];exact⟨_,by omega,rfl⟩
   ·rw[if_neg y] at hx;exact absurd rfl hx
 ·rw[h,Below.heap_alloc _ _ _ (by rw[s1];omega),Below.heap_alloc _ _ _ hx]
theorem zu0{v:Int}(hv:zcm v){w':World}{N:Nat}(hN:w.heap.size=N)(h:w'.heap=(w.alloc (.cells #[.int .i64 v] 102)).heap) :
  FW (fun v=>WAt N v) (·=N) v (fun x=>if x=N then .sh else .out) w'∧(∀x,x<N→w'.heap[x]?=w.heap[x]?)∧w'.heap.size=N+1:=by
 subst hN;have e1:w'.heap[w.heap.size]?=some (.cells #[.int .i64 v] 102 (0,0)):=by rw[h];exact heap_alloc_new _ _
 have hs:w'.heap.size=w.heap.size+1:=by rw[h];simp
 refine⟨⟨⟨if_pos rfl,e1,hv⟩,fun x hx=>if_neg (by omega),fun x hx=>?_⟩,fun x hx=>?_,hs⟩
 ·by_cases z:x=w.heap.size
  ·exact .inl z
  ·rw[if_neg z] at hx;exact absurd rfl hx
 ·rw[h,Below.heap_alloc _ _ _ hx]
end
def fxC:Tr:=trC [5] [[⟨3,0,1,0⟩,⟨1,0,0,0⟩],[⟨3,0,1,0⟩,⟨1,0,0,0⟩]] [0,1,1,0] 99
theorem z69:fxC.ans.map (·.map fun a=>(a.ok,a.n,a.l))=[[(true,6,[]),(true,7,[])],[(true,7,[]),(true,7,[])]]:=by decide +kernel
theorem fc_st:fxC.st=[7,0,5]∧fxC.stuck=false∧fxC.ord.length=4:=by decide +kernel
theorem z1d:fxC.ans=[[⟨true,6,[]⟩,⟨true,7,[]⟩],[⟨true,7,[]⟩,⟨true,7,[]⟩]]:=by
 have h:=z69;generalize fxC.ans=l at h
 match l,h with
 | [[⟨a1,a2,a3⟩,⟨b1,b2,b3⟩],[⟨c1,c2,c3⟩,⟨d1,d2,d3⟩]],h =>
  simp only[List.map_cons,List.map_nil,List.cons.injEq,Prod.mk.injEq,and_true] at h;obtain⟨⟨⟨rfl,rfl,rfl⟩,rfl,rfl,rfl⟩,⟨rfl,rfl,rfl⟩,rfl,rfl,rfl⟩:=h;rfl
theorem z5g{w:World}{N K:Nat}(m0:w.heap[K]?=some (.cells #[.int .i64 5] 2 (0,0)))(m1:w.heap[N]?=some (.cells #[.int .i64 3,.int .i64 0,.int .i64 1,.int .i64 0,.int .i64 1,.int .i64 0,.int .i64 0,.int .i64 0] 45 (0,0)))
  (m3:w.heap[K+1]?=some (.cells #[.slice (some ⟨N,0,none⟩) 2 2,.slice (some ⟨N,0,none⟩) 2 2] 34 (0,0))) (m4:w.heap[K+1+1]?=some (.cells #[.int .i64 0,.int .i64 1,.int .i64 1,.int .i64 0] 3 (0,0))) :
  IntsIn w (.slice (some ⟨K,0,none⟩) 1 1) [5]∧ThrIn w (.slice (some ⟨K+1,0,none⟩) 2 2) [[⟨3,0,1,0⟩,⟨1,0,0,0⟩],[⟨3,0,1,0⟩,⟨1,0,0,0⟩]]∧IntsIn w (.slice (some ⟨K+1+1,0,none⟩) 4 4) [0,1,1,0]:=by
 have op:OpsIn w (some ⟨N,0,none⟩) 2 2 [⟨3,0,1,0⟩,⟨1,0,0,0⟩]:=by
  refine⟨fun o h=>?_,rfl,yax _,fun _=>⟨N,0,rfl,fun j p hj=>?_⟩⟩
  ·rcases List.mem_cons.1 h with rfl|h
   ·constructor<;>constructor<;>decide
   ·obtain rfl:o=⟨1,0,0,0⟩:=by simpa using h
    constructor<;>constructor<;>decide
  ·rcases j with _|_|j
   ·simp at hj;subst hj;exact⟨zab m1 0,zab m1 1,zab m1 2,zab m1 3⟩
   ·simp at hj;subst hj;exact⟨zab m1 4,zab m1 5,zab m1 6,zab m1 7⟩
   ·simp at hj
 refine⟨⟨fun x hx=>?_,_,1,rfl,yax _,fun _=>⟨K,0,rfl,fun j x hj=>?_⟩⟩,⟨_,2,rfl,fun _=>some ⟨N,0,none⟩,fun _=>2,fun _=>2,fun _=>⟨K+1,0,rfl,fun i L hi=>?_⟩,fun i L hi=>?_⟩,fun x hx=>?_,_,4,rfl,yax _,fun _=>⟨K+1+1,0,rfl,fun j x hj=>?_⟩⟩
 ·obtain rfl:x=5:=by simpa using hx
  constructor<;>decide
 ·rcases j with _|j
  ·simp at hj;subst hj;exact zab m0 0
  ·simp at hj
 ·rcases i with _|_|i
  ·exact zab m3 0
  ·exact zab m3 1
  ·simp at hi
 ·rcases i with _|_|i
  ·simp at hi;subst hi;exact op
  ·simp at hi;subst hi;exact op
  ·simp at hi
 ·have:x=0∨x=1:=by simp at hx;omega
  rcases this with rfl|rfl<;>constructor<;>decide
 ·rw[Nat.zero_add,zab m4];rcases j with _|_|_|_|j<;>first|(simp at hj;subst hj;rfl)|(simp at hj)
theorem z59{w W:World}{b c d:Obj}{N:Nat}(hN:w.heap.size=N)(h:W.heap=(((w.alloc b).alloc c).alloc d).heap):W.heap[N]?=some b∧W.heap[N+1]?=some c∧W.heap[N+1+1]?=some d:=by
 subst hN;have s1:(w.alloc b).heap.size=w.heap.size+1:=by simp
 have s2:((w.alloc b).alloc c).heap.size=w.heap.size+1+1:=by simp
 rw[h];refine⟨?_,?_,?_⟩
 ·rw[Below.heap_alloc _ _ _ (by omega),Below.heap_alloc _ _ _ (by omega)];exact heap_alloc_new _ _
 ·rw[Below.heap_alloc _ _ _ (by omega),←s1];exact heap_alloc_new _ _
 ·rw[←s2];exact heap_alloc_new _ _
theorem zzi:Prg false Try.prog (·∈[32,37,83,87,90,92,94,144,145,146]):=zgq zag (by kernel_rfl) (by kernel_rfl) (by kernel_rfl)
theorem zew{w w':World}(τ:Nat→Question→Nat)(d:Nat)(h:LeftW w w'):LeftW w (re τ d w'):=⟨h.same,h.size,h.outs⟩
theorem zw2{w w':World}{τ:Nat→Question→Nat}{d:Nat}(h:LeftW (re τ d w) w'):LeftW w w':=⟨h.same,h.size,h.outs⟩
theorem z6t(w:World):((binOp .eql 9 (.string ⟨#[97]⟩) (.string ⟨#[97]⟩)).bind fun v=>(pure (Next.value v):Sem Next)).runT Try.prog w #[]=(.ok (.value (.bool true)) w,#[]):=by kernel_rfl
theorem z6s(w:World):((binOp .eql 9 (.string ⟨#[98]⟩) (.string ⟨#[98]⟩)).bind fun v=>(pure (Next.value v):Sem Next)).runT Try.prog w #[]=(.ok (.value (.bool true)) w,#[]):=by kernel_rfl
section
variable{Z:Machine→Trace→Prop}{c:Frame}{cs:List Frame}
theorem zsa{w:World}(h:∀w',LeftW w w'→RM Try.prog Z (G (c.finish (.bool true)) cs) w'):RM Try.prog Z (G (Frame.enter Try.prog 29 #[] .normal) (c::cs)) w:=by
 rw[enter_at _ Try.func29 rfl];simp only[Try.ntmps29,yan,yau,yav,Nat.reduceAdd,Nat.reduceSub,yao,
   yap,yaq,yar,yas,yat]
 replace h:=yay h;have L:LeftW w w := .refl;refine zaf rm_xc fun R0 qv=>?_;refine zbn zzi (zac zag (by kernel_rfl)) rfl (zaa Try.func29) rfl fun wp hp=>?_;replace hp:=yay hp
 go_wp2_with fail
 refine fun w1 h1=>?_;replace L:=L.trans ((LeftW.of_sim hp.out.heap hp.out.outs).sim h1);clear h1 hp wp;obtain rfl:=qv.out;clear qv;refine zaf rm_xc fun R0 qv=>?_;refine zbn zzi (zac zag (by kernel_rfl)) rfl (zaa Try.func29) rfl fun wp hp=>?_;obtain⟨N,hN⟩:∃N,wp.heap.size=N:=⟨_,rfl⟩;replace hN:=yay hN;replace hp:=yay hp
 go_wp2_with fail
 rw[hN.out];refine fun w2 h2=>?_;replace L:=L.trans (((LeftW.of_sim hp.out.heap hp.out.outs).alloc _).sim h2);have m1:w2.heap[N]?=some (.cells #[.int .i64 3,.int .i64 0,.int .i64 1,.int .i64 0,.int .i64 1,.int .i64 0,.int .i64 0,.int .i64 0] 45 (0,0)):=by
  rw[h2.heap,←hN.out];exact heap_alloc_new _ _
 clear h2 hp hN wp;obtain rfl:=qv.out;clear qv;refine zaf rm_xc fun R0 qv=>?_;refine zmy 5 (by decide) (by decide) (zai (by kernel_rfl)) fun wp hp=>?_;simp only[yad,yae];obtain⟨K,hK⟩:∃K,wp.heap.size=K:=⟨_,rfl⟩;replace hK:=yay hK;replace hp:=yay hp
 go_wp2_with fail
 refine zbp rfl fun w3 h3=>?_;replace L:=L.trans (((((LeftW.of_sim hp.out.heap hp.out.outs).alloc _).alloc _).alloc _).sim h3);obtain⟨q0,q3,q4⟩:=z59 hK.out h3.heap;have q1:w3.heap[N]?=w2.heap[N]?:=by
  have qr:N<wp.heap.size:=by rw[hp.out.heap];exact(yah.1 m1).1
  rw[h3.heap,Below.heap_alloc _ _ _ (by simp;omega),Below.heap_alloc _ _ _ (by simp;omega),Below.heap_alloc _ _ _ qr,hp.out.heap]
 replace q1:=q1.trans m1;have hKK:=hK.out
 try rw[hKK]
 clear h3 hp hKK hK wp m1;obtain⟨hI,hT,hS⟩:=z5g q0 q1 q3 q4;clear q0 q1 q3 q4;refine zap rm_xc rfl rfl (by decide) rfl Try.func30 (by kernel_rfl) (by kernel_rfl) ?_;walk_nrm;refine zrx (l:=[5]) (LL:=[[⟨3,0,1,0⟩,⟨1,0,0,0⟩],[⟨3,0,1,0⟩,⟨1,0,0,0⟩]]) (sch:=[0,1,1,0]) (most:=99) hI hT (by decide) (by decide) hS (by decide) (by decide) (fun X hX=>?hsm) fun ar n cc vo vs w4 hT4 _ k4 s4 o4=>?_
 case hsm =>
  change X∈fxC.ans at hX
  rw[z1d] at hX;have:X=[⟨true,6,[]⟩,⟨true,7,[]⟩]∨X=[⟨true,7,[]⟩,⟨true,7,[]⟩]:=by simpa using hX
  rcases this with rfl|rfl
  ·exact⟨by decide,fun r hr=>by
    have:r=⟨true,6,[]⟩∨r=⟨true,7,[]⟩:=by simpa using hr
    rcases this with rfl|rfl<;>decide⟩
  ·exact⟨by decide,fun r hr=>by
    obtain rfl:r=⟨true,7,[]⟩:=by simpa using hr
    decide⟩
 replace L:=L.trans ⟨k4,s4,o4⟩;replace hT4:=hT4 w4 fun _ _ _=>rfl
 change TrIn w4 _ fxC at hT4
 have hst:(trC [5] [[⟨3,0,1,0⟩,⟨1,0,0,0⟩],[⟨3,0,1,0⟩,⟨1,0,0,0⟩]] [0,1,1,0] 99).stuck=false:=fc_st.2.1;rw[hst];obtain⟨va,vo',vs',e0,⟨aa,ac,e1,hA⟩,⟨oa,oc,e2,_⟩,⟨sa,sc,e3,hS4⟩⟩:=hT4;obtain⟨rfl,rfl,rfl⟩:va = .slice (some ⟨ar,0,none⟩) n n∧vo'=vo∧vs'=vs:=by
  simp only[Value.agg.injEq,List.toArray,Array.mk.injEq,List.cons.injEq] at e0;exact⟨e0.1.symm,e0.2.1.symm,e0.2.2.1.symm⟩
 clear e0;rw[fc_st.2.2] at e2;obtain rfl:=e2;rw[z1d] at hA e1;rw[fc_st.1] at hS4 e3;obtain⟨ab,ao,rfl,hA1⟩:=hA (by simp);obtain⟨sb,so,rfl,hc⟩:=hS4 (by simp);obtain⟨u0,r0,⟨g0,gc0,rfl,hr0⟩⟩:=hA1 0 _ rfl;obtain⟨u1,r1,⟨g1,gc1,rfl,hr1⟩⟩:=hA1 1 _ rfl;obtain⟨x0,y0,rfl,hq0⟩:=hr0 (by simp);obtain⟨x1,y1,rfl,hq1⟩:=hr1 (by simp);have a0:=(hq0 0 _ rfl).2.1;have a1:=(hq0 1 _ rfl).2.1;have a2:=(hq1 0 _ rfl).2.1;have c0:=hc 0 _ rfl;simp only[yau,yav,Nat.reduceAdd,Nat.zero_mul,Nat.one_mul,Nat.add_zero] at a0 a1 a2 c0 e1 e3 r0 r1;obtain⟨rfl,rfl,rfl⟩:ab=ar∧ao=0∧n=2:=by
  simp only[Value.slice.injEq,Option.some.injEq,Addr.mk.injEq] at e1;exact⟨e1.1.1.symm,e1.1.2.1.symm,e1.2.1⟩
 obtain rfl:=e3;clear hA hS4 hA1 hq0 hq1 hr0 hr1 hc hI hT hS e1 hst k4 s4 o4;rw[Frame.finish_at];walk_nrm;refine zd0 6 2 (by decide) (by decide) (zai (by kernel_rfl)) fun wp hp=>?_;simp only[yaf,yag,yad,yae];obtain⟨M,hM⟩:∃M,wp.heap.size=M:=⟨_,rfl⟩;replace hM:=yay hM;replace hp:=yay hp
 go_wp2_with fail
 refine zbp rfl fun w5 h5=>?_;replace L:=L.trans (((LeftW.of_sim hp.out.heap hp.out.outs).alloc _).sim h5);have e5:w5.heap[M]?=some (.cells #[.slice (some ⟨ab,0,none⟩) 2 2,.slice oa 4 oc,.slice (some ⟨sb,so,none⟩) 3 sc,.bool false] 31 (0,0)):=by rw[h5.heap,←hM.out];exact heap_alloc_new _ _
 have k5:∀(a:Addr) v,w4.cell? a=some v→w5.cell? a=some v:=fun a v q=>(World.cell?_of_block (w:=w4) (by
  have hb:=World.block_lt_of_cell? w4 _ q;rw[h5.heap,Below.heap_alloc _ _ _ (by rw[hp.out.heap];exact hb),hp.out.heap])).trans q
 replace a0:=k5 _ _ a0;replace a1:=k5 _ _ a1;replace a2:=k5 _ _ a2;replace c0:=k5 _ _ c0;replace r0:=k5 _ _ r0;replace r1:=k5 _ _ r1;have hMM:=hM.out
 try rw[hMM]
 clear h5 hp hMM hM k5 wp;refine zad rm_xc ?_;obtain rfl:=qv.out;clear qv;refine zaf rm_xc fun R0 qv=>?_;refine zaf rm_xc fun R1 qs=>?_;refine zbn zzi (zac zag (by kernel_rfl)) rfl (zaa Try.func29) rfl fun wp hp=>?_;have g5:wp.heap[M]?=_:=(congrArg (·[M]?) hp.heap).trans e5;have d0:=zab g5 0;have d2:=zab g5 2;have d3:=zab g5 3;have cc:∀(a:Addr) v,w5.cell? a=some v→wp.cell? a=some v:=fun a v q=>(World.cell?_of_block (w:=w5) (by rw[hp.heap])).trans q;replace a0:=cc _ _ a0;replace a1:=cc _ _ a1;replace a2:=cc _ _ a2;replace c0:=cc _ _ c0;replace r0:=cc _ _ r0;replace r1:=cc _ _ r1;simp only[yac,yaa,yab] at d0 d2 d3;replace g5:=yay g5;clear cc;replace hp:=yay hp
 go_wp2_with fail
 refine fun w6 h6=>?_;replace L:=L.trans ((LeftW.of_sim hp.out.heap hp.out.outs).sim h6);clear a0 a1 a2 c0 r0 r1 d0 d2 d3 g5 h6 hp wp e5;obtain rfl:=qs.out;clear qs;refine zau rm_xc (t:=false) rfl ?_;refine zbf rm_xc ?_;obtain rfl:=qv.out;clear qv;refine zaf rm_xc fun R0 qv=>?_;refine zbn zzi (zac zag (by kernel_rfl)) rfl (zaa Try.func29) rfl fun wp hp=>?_;obtain⟨N,hN⟩:∃N,wp.heap.size=N:=⟨_,rfl⟩;replace hN:=yay hN;replace hp:=yay hp
 go_wp2_with (go_at_call 32;refine(zgs _ _).mono ?_;rintro e w' ⟨rfl,rfl⟩)
 refine fun w7 h7=>?_;obtain⟨G0,k7,s7⟩:=zu0 (w':=w7) (v:=5) (by constructor<;>decide) hN.out h7.heap;have hNw:w.heap.size≤N:=by rw[←hN.out,hp.out.heap];exact L.size
 have I:FL (fun v=>WAt N v) (·=N) w 5 (fun x=>if x=N then .sh else .out) w7:=⟨G0,L.trans ⟨fun x hx=>by rw[k7 x (by rw[←hN.out,hp.out.heap];exact hx),hp.out.heap],by rw[s7,←hN.out,hp.out.heap];omega,h7.outs.1.trans hp.out.outs.1,h7.outs.2.trans hp.out.outs.2⟩,fun x hx=>if_neg (by omega)⟩;have hNN:=hN.out
 try rw[hNN]
 clear h7 hp hN hNN G0 k7 s7 L wp;generalize (fun x=>if x=N then Owner.sh else .out)=ql at I;obtain rfl:=qv.out;clear qv;refine zaf rm_xc fun R0 qv=>?_;refine zaf rm_xc fun R1 qs=>?_;refine zmy 4 (by decide) (by decide) (zai (by kernel_rfl)) fun wp hp=>?_;simp only[yad,yae];replace hp:=yay hp
 go_wp2_with fail
 refine zbp rfl fun w8 h8=>?_;replace I:=I.sim famWord (h8.heap.trans hp.out.heap) ⟨h8.outs.1.trans hp.out.outs.1,h8.outs.2.trans hp.out.outs.2⟩;clear h8 hp wp;refine zap rm_xc rfl rfl (by decide) rfl Try.func47 (by kernel_rfl) (by kernel_rfl) ?_;walk_nrm;rw[show Value.pointer (some ⟨N,0,none⟩)=gpv N from rfl]
 refine zpe I.g fun own9 w9 Ga La=>?_;replace I:FL (fun v=>WAt N v) (·=N) w 7 own9 w9:=I.step Ga La;clear Ga La;rw[show zbk 5 2=7 by decide];rw[Frame.finish_at];walk_nrm
 try unfold gpv
 refine zd0 5 4 (by decide) (by decide) (zai (by kernel_rfl)) fun wp hp=>?_;simp only[yaf,yag,yad,yae];replace hp:=yay hp
 go_wp2_with fail
 refine zbp rfl fun w10 h10=>?_;replace I:=I.sim famWord (h10.heap.trans hp.out.heap) ⟨h10.outs.1.trans hp.out.outs.1,h10.outs.2.trans hp.out.outs.2⟩;clear h10 hp wp;refine zap rm_xc rfl rfl (by decide) rfl Try.func49 (by kernel_rfl) (by kernel_rfl) ?_;walk_nrm;rw[show Value.pointer (some ⟨N,0,none⟩)=gpv N from rfl]
 refine zj6 (by constructor<;>decide) I.g fun own11 w11 Ga La=>?_;replace I:FL (fun v=>WAt N v) (·=N) w 9 own11 w11:=I.step Ga La;clear Ga La;rw[show decide ((7:Int)=7)=true by decide];rw[Frame.finish_at];walk_nrm
 try unfold gpv
 refine zd0 10 4 (by decide) (by decide) (zai (by kernel_rfl)) fun wp hp=>?_;simp only[yaf,yag,yad,yae];replace hp:=yay hp
 go_wp2_with fail
 refine zbp rfl fun w12 h12=>?_;replace I:=I.sim famWord (h12.heap.trans hp.out.heap) ⟨h12.outs.1.trans hp.out.outs.1,h12.outs.2.trans hp.out.outs.2⟩;clear h12 hp wp;refine zap rm_xc rfl rfl (by decide) rfl Try.func49 (by kernel_rfl) (by kernel_rfl) ?_;walk_nrm;rw[show Value.pointer (some ⟨N,0,none⟩)=gpv N from rfl]
 refine zj6 (by constructor<;>decide) I.g fun own13 w13 Ga La=>?_;replace I:FL (fun v=>WAt N v) (·=N) w 9 own13 w13:=I.step Ga La;clear Ga La;rw[show decide ((9:Int)=7)=false by decide];rw[Frame.finish_at];walk_nrm
 try unfold gpv
 refine zd0 15 3 (by decide) (by decide) (zai (by kernel_rfl)) fun wp hp=>?_;simp only[yaf,yag,yad,yae];replace hp:=yay hp
 go_wp2_with fail
 refine zbp rfl fun w14 h14=>?_;replace I:=I.sim famWord (h14.heap.trans hp.out.heap) ⟨h14.outs.1.trans hp.out.outs.1,h14.outs.2.trans hp.out.outs.2⟩;clear h14 hp wp;refine zap rm_xc rfl rfl (by decide) rfl Try.func37 (by kernel_rfl) (by kernel_rfl) ?_;walk_nrm;refine zha zzi (f:=37) (by simp) (R:=fun v w'=>v = .int .i64 9∧LeftW w14 w') (fun v w' τ d hx=>⟨hx.1,zew τ d hx.2⟩) (fun τ d=>(zd2 N 9 (re τ d w14) ((zab (w:=re τ d w14) I.g.rep.at_ 0).trans rfl)).mono fun e w' ⟨e1,e2⟩=>⟨_,e1,rfl,by rw[←e2];exact zew τ d .refl⟩) fun v w15 hv=>?_;obtain⟨rfl,hl⟩:=hv;have L:=I.l.trans hl;clear I hl;rw[Frame.finish_at];walk_nrm
 try unfold gpv
 refine zd0 19 2 (by decide) (by decide) (zai (by kernel_rfl)) fun wp hp=>?_;simp only[yaf,yag,yad,yae];replace hp:=yay hp
 go_wp2_with fail
 refine zbp rfl fun w16 h16=>?_;replace L:=L.trans ((LeftW.of_sim hp.out.heap hp.out.outs).sim h16);clear h16 hp wp;refine zad rm_xc ?_;obtain rfl:=qs.out;clear qs;refine zau rm_xc (t:=false) rfl ?_;refine zbf rm_xc ?_;obtain rfl:=qv.out;clear qv;refine zaf rm_xc fun R0 qv=>?_;refine zbn zzi (zac zag (by kernel_rfl)) rfl (zaa Try.func29) rfl fun wp hp=>?_;obtain⟨B,hB⟩:∃B,wp.heap.size=B:=⟨_,rfl⟩;replace hB:=yay hB;replace hp:=yay hp
 go_wp2_with (go_at_call 90;refine(zr1 _ _).mono ?_;rintro e w' ⟨rfl,rfl⟩)
 refine fun w17 h17=>?_;obtain⟨G0,k7,s7⟩:=zwv (w':=w17) (v:=⟨#[97]⟩) hB.out h17.heap;have hNw:w.heap.size≤B:=by rw[←hB.out,hp.out.heap];exact L.size
 have I:FL (fun V=>SB.BAt 0 B V) (·=B) w ⟨⟨#[97]⟩,1,1⟩ (fun x=>if x=B then .sh else if x=B+1 then .tag (zhj 0 1+2) else .out) w17:=⟨G0,L.trans ⟨fun x hx=>by rw[k7 x (by rw[←hB.out,hp.out.heap];exact hx),hp.out.heap],by rw[s7,←hB.out,hp.out.heap];omega,h17.outs.1.trans hp.out.outs.1,h17.outs.2.trans hp.out.outs.2⟩,fun x hx=>by
  rw[if_neg (by omega),if_neg (by omega)]⟩
 have hNN:=hB.out
 try rw[hNN]
 clear h17 hp hB hNN G0 k7 s7 L wp;generalize (fun x=>if x=B then Owner.sh else if x=B+1 then .tag (zhj 0 1+2) else .out)=qm at I;obtain rfl:=qv.out;clear qv;refine zaf rm_xc fun R0 qv=>?_;refine zaf rm_xc fun R1 qs=>?_;refine zbn zzi (zac zag (by kernel_rfl)) rfl (zaa Try.func29) rfl fun wp hp=>?_;replace hp:=yay hp
 go_wp2_with fail
 refine fun w18 h18=>?_;replace I:=I.sim famStr (h18.heap.trans hp.out.heap) ⟨h18.outs.1.trans hp.out.outs.1,h18.outs.2.trans hp.out.outs.2⟩;clear h18 hp wp;obtain rfl:=qs.out;clear qs;refine zau rm_xc (t:=false) rfl ?_;refine zbf rm_xc ?_;obtain rfl:=qv.out;clear qv;refine zaf rm_xc fun R0 qv=>?_;refine zmy 1 (by decide) (by decide) (zai (by kernel_rfl)) fun wp hp=>?_;simp only[yad,yae];replace hp:=yay hp
 go_wp2_with fail
 refine zbp rfl fun w19 h19=>?_;replace I:=I.sim famStr (h19.heap.trans hp.out.heap) ⟨h19.outs.1.trans hp.out.outs.1,h19.outs.2.trans hp.out.outs.2⟩;clear h19 hp wp;refine zap rm_xc rfl rfl (by decide) rfl Try.func91 (by kernel_rfl) (by kernel_rfl) ?_;walk_nrm;rw[show Value.pointer (some ⟨B,0,none⟩)=gpv B from rfl]
 refine zpu I.g fun p own20 w20 Ga La Ta hH=>?_;replace I:FL (fun V=>SB.BAt 0 B V) (·=B) w ⟨⟨#[97]⟩,1,1⟩ own20 w20:=I.step Ga La;clear Ga La Ta;rw[Frame.finish_at];walk_nrm
 try unfold gpv
 refine zd0 2 2 (by decide) (by decide) (zai (by kernel_rfl)) fun wp hp=>?_;simp only[yaf,yag,yad,yae];obtain⟨H,hHH⟩:∃H,wp.heap.size=H:=⟨_,rfl⟩;replace hHH:=yay hHH;replace hp:=yay hp
 go_wp2_with fail
 refine zbp rfl fun w21 h21=>?_;have eH:w21.heap[H]?=some (.cells #[.pointer p,.pointer (some ⟨B,0,none⟩)] 173 (0,0)):=by rw[h21.heap,←hHH.out];exact heap_alloc_new _ _
 have oH:own20 H = .out:=I.g.new H (by rw[←hHH.out,hp.out.heap];exact yax _);have k21:∀x,x<w20.heap.size→w21.heap[x]?=w20.heap[x]?:=fun x hx=>by rw[h21.heap,Below.heap_alloc _ _ _ (by rw[hp.out.heap];exact hx),hp.out.heap]
 have T21:Tags own20 own20 w20 w21:=fun x t _ hx=>⟨hx,k21 x (by
  rcases Nat.lt_or_ge x w20.heap.size with z|z
  ·exact z
  ·rw[I.g.new x z] at hx;cases hx)⟩
 replace hH:=hH.tags T21;replace I:=I.beside famStr (w2:=w21) (by rw[h21.heap];simp;rw[hp.out.heap];omega) k21 ⟨h21.outs.1.trans hp.out.outs.1,h21.outs.2.trans hp.out.outs.2⟩;have hNN:=hHH.out
 try rw[hNN]
 clear h21 hp hHH hNN k21 T21 wp;refine zad rm_xc ?_;obtain rfl:=qv.out;clear qv;refine zaf rm_xc fun R0 qv=>?_;refine zmy 1 (by decide) (by decide) (zai (by kernel_rfl)) fun wp hp=>?_;simp only[yad,yae];have gH:wp.heap[H]?=_:=(congrArg (·[H]?) hp.heap).trans eH;have g0:=zab gH 0;have g1:=zab gH 1;simp only[yac,yaa,yab] at g0 g1;replace gH:=yay gH;replace hp:=yay hp
 go_wp2_with fail
 refine zbp rfl fun w22 h22=>?_;have e22:w22.heap=w21.heap:=h22.heap.trans hp.out.heap;replace I:=I.sim famStr e22 ⟨h22.outs.1.trans hp.out.outs.1,h22.outs.2.trans hp.out.outs.2⟩;replace hH:SB.HeldC own20 w22.heap 0 1 ⟨#[97]⟩ p:=by rw[e22];exact hH
 replace eH:=(congrArg (·[H]?) e22).trans eH;clear h22 hp gH g0 g1 e22 wp;refine zap rm_xc rfl rfl (by decide) rfl Try.func92 (by kernel_rfl) (by kernel_rfl) ?_;walk_nrm;refine zha zzi (f:=92) (by simp) (R:=fun v w'=>v = .string ⟨#[97]⟩∧LeftW w22 w') (fun v w' τ d hx=>⟨hx.1,zew τ d hx.2⟩) (fun τ d=>(SB.heldI_walk (re τ d w22) (show SB.KeptI (re τ d w22) p ⟨#[97]⟩ from hH.kept2) ⟨_,rfl⟩).mono fun e w' ⟨e1,e2⟩=>⟨_,e1,rfl,by rw[←e2];exact zw2 ((LeftW.refl (w:=re τ d w22)).alloc _)⟩) fun v w23 hv=>?_
 obtain⟨rfl,hl⟩:=hv;have lt22:∀x,own20 x ≠ .out→x<w22.heap.size:=fun x hx=>by
  rcases Nat.lt_or_ge x w22.heap.size with z|z
  ·exact z
  ·exact absurd (I.g.new x z) hx
 replace hH:=hH.tags (w:=w22) (w':=w23) (own':=own20) fun x t _ hx=>⟨hx,hl.same x (lt22 x (by rw[hx];simp))⟩;replace eH:=(hl.same H (yah.1 eH).1).trans eH;replace I:=I.beside famStr hl.size hl.same hl.outs;clear hl lt22;rw[Frame.finish_at];walk_nrm
 try unfold gpv
 refine zje rm_xc (i:=2) (rest:=List.range' 3 17) (v := .bool true) rfl rfl (by decide) (fun w=>?_) ?_
 ·exact z6t w
 simp only[Act.put,yak,yal,yam];refine zd0 3 3 (by decide) (by decide) (zai (by kernel_rfl)) fun wp hp=>?_;simp only[yaf,yag,yad,yae];have gH:wp.heap[H]?=_:=(congrArg (·[H]?) hp.heap).trans eH;have g0:=zab gH 0;have g1:=zab gH 1;simp only[yac,yaa,yab] at g0 g1;replace gH:=yay gH;replace hp:=yay hp
 go_wp2_with fail
 refine zbp rfl fun w24 h24=>?_;have ek:w24.heap=w23.heap:=h24.heap.trans hp.out.heap;replace I:=I.sim famStr ek ⟨h24.outs.1.trans hp.out.outs.1,h24.outs.2.trans hp.out.outs.2⟩;replace hH:=show SB.HeldC _ w24.heap 0 1 ⟨#[97]⟩ p by rw[ek];exact hH
 replace eH:=(congrArg (·[H]?) ek).trans eH;clear h24 hp gH g0 g1 ek wp;refine zap rm_xc rfl rfl (by decide) rfl Try.func93 (by kernel_rfl) (by kernel_rfl) ?_;walk_nrm;rw[show Value.pointer (some ⟨B,0,none⟩)=gpv B from rfl]
 refine zlg hH I.g fun own25 w25 Ga La Ta=>?_;replace I:FL (fun V=>SB.BAt 0 B V) (·=B) w ⟨⟨#[98]⟩,2,2⟩ own25 w25:=I.step Ga La;replace hH:=hH.tags Ta;have hs:=La.same H (yah.1 eH).1 oH;replace eH:=hs.2.trans eH;replace oH:=hs.1;clear Ga La Ta hs;rw[show decide (1=1)=true by decide];rw[Frame.finish_at];walk_nrm
 try unfold gpv
 refine zd0 7 4 (by decide) (by decide) (zai (by kernel_rfl)) fun wp hp=>?_;simp only[yaf,yag,yad,yae];have gH:wp.heap[H]?=_:=(congrArg (·[H]?) hp.heap).trans eH;have g0:=zab gH 0;have g1:=zab gH 1;simp only[yac,yaa,yab] at g0 g1;replace gH:=yay gH;replace hp:=yay hp
 go_wp2_with fail
 refine zbp rfl fun w26 h26=>?_;have ek:w26.heap=w25.heap:=h26.heap.trans hp.out.heap;replace I:=I.sim famStr ek ⟨h26.outs.1.trans hp.out.outs.1,h26.outs.2.trans hp.out.outs.2⟩;replace hH:=show SB.HeldC _ w26.heap 0 1 ⟨#[97]⟩ p by rw[ek];exact hH
 replace eH:=(congrArg (·[H]?) ek).trans eH;clear h26 hp gH g0 g1 ek wp;refine zap rm_xc rfl rfl (by decide) rfl Try.func93 (by kernel_rfl) (by kernel_rfl) ?_;walk_nrm;rw[show Value.pointer (some ⟨B,0,none⟩)=gpv B from rfl]
 refine zlg hH I.g fun own27 w27 Ga La Ta=>?_;replace I:FL (fun V=>SB.BAt 0 B V) (·=B) w ⟨⟨#[98]⟩,2,2⟩ own27 w27:=I.step Ga La;replace hH:=hH.tags Ta;have hs:=La.same H (yah.1 eH).1 oH;replace eH:=hs.2.trans eH;replace oH:=hs.1;clear Ga La Ta hs;rw[show decide (2=1)=false by decide];rw[Frame.finish_at];walk_nrm
 try unfold gpv
 refine zd0 12 4 (by decide) (by decide) (zai (by kernel_rfl)) fun wp hp=>?_;simp only[yaf,yag,yad,yae];have gH:wp.heap[H]?=_:=(congrArg (·[H]?) hp.heap).trans eH;have g0:=zab gH 0;have g1:=zab gH 1;simp only[yac,yaa,yab] at g0 g1;replace gH:=yay gH;replace hp:=yay hp
 go_wp2_with fail
 refine zbp rfl fun w28 h28=>?_;have ek:w28.heap=w27.heap:=h28.heap.trans hp.out.heap;replace I:=I.sim famStr ek ⟨h28.outs.1.trans hp.out.outs.1,h28.outs.2.trans hp.out.outs.2⟩;replace hH:=show SB.HeldC _ w28.heap 0 1 ⟨#[97]⟩ p by rw[ek];exact hH
 replace eH:=(congrArg (·[H]?) ek).trans eH;clear h28 hp gH g0 g1 ek wp;refine zap rm_xc rfl rfl (by decide) rfl Try.func94 (by kernel_rfl) (by kernel_rfl) ?_;walk_nrm;obtain⟨p2,c1,hH2⟩:=I.g.rep.cell;refine zha zzi (f:=94) (by simp) (R:=fun v w'=>v = .string ⟨#[98]⟩∧LeftW w28 w') (fun v w' τ d hx=>⟨hx.1,zew τ d hx.2⟩) (fun τ d=>(znz B (re τ d w28) ((zab (w:=re τ d w28) c1 0).trans rfl) (show SB.KeptI (re τ d w28) p2 ⟨#[98]⟩ from hH2.kept2)).mono fun e w' ⟨e1,e2⟩=>⟨_,e1,rfl,by rw[←e2];exact zew τ d .refl⟩) fun v w29 hv=>?_
 obtain⟨rfl,hl⟩:=hv;have L:=I.l.trans hl;clear I hl;rw[Frame.finish_at];walk_nrm
 try unfold gpv
 refine zje rm_xc (i:=17) (rest:=List.range' 18 2) (v := .bool true) rfl rfl (by decide) (fun w=>?_) ?_
 ·exact z6s w
 simp only[Act.put,yak,yal,yam];refine zd0 18 2 (by decide) (by decide) (zai (by kernel_rfl)) fun wp hp=>?_;simp only[yaf,yag,yad,yae];replace hp:=yay hp
 go_wp2_with fail
 refine zbp rfl fun w30 h30=>?_;replace L:=L.trans ((LeftW.of_sim hp.out.heap hp.out.outs).sim h30);clear h30 hp wp;refine zad rm_xc ?_;obtain rfl:=qv.out;clear qv;refine zc0 rm_xc ?_;refine za4 rm_xc (zaa Try.func29) (zb1 _) (by rw[zds];exact⟨rfl,rfl,rfl,_,Try.func29,results_tmp rfl _ _ _⟩) ?_;exact h.out _ L
end
theorem z21:(Try.prog.info? 45).map (fun i=>(i.zero,i.size,i.bytes))=some (some (.agg #[.int .i64 0,.int .i64 0,.int .i64 0,.int .i64 0]),4,32):=by kernel_rfl
def zva(o:OpD):List Value:=[.int .i64 o.kind,.int .i64 o.a,.int .i64 o.b,.int .i64 o.c]
def zob(L:List OpD):List Value:=L.flatMap zva
theorem zlt:∀L:List OpD,(zob L).length=L.length*4
 | []=>rfl
 | o::L=>by
  have:=zlt L;unfold zob at *;simp only[List.flatMap_cons,List.length_append,yau,this];simp[zva];omega
theorem zlu:∀(L:List OpD) (k r:Nat) (o:OpD),L[k]?=some o→r<4→(zob L)[k*4+r]?=(zva o)[r]?
 | [],k,r,o,h,_=>by simp at h
 | x::L,0,r,o,h,hr=>by
  simp only[yaa,Option.some.injEq] at h;subst h;show(zva x++zob L)[0*4+r]?=_;rw[List.getElem?_append_left (by simp[zva];omega)];simp
 | x::L,k+1,r,o,h,hr=>by
  simp only[yab] at h;show(zva x++zob L)[(k+1)*4+r]?=_;rw[List.getElem?_append_right (by simp[zva];omega)];have:(k+1)*4+r - (zva x).length=k*4+r:=by simp[zva];omega
  rw[this];exact zlu L k r o h hr
theorem z6u{w:World}{ao:Option Addr}{n cap:Nat}{L:List OpD}(h:OpsIn w ao n cap L)(hz:ao=none→cap=0):z6h w (.slice ao n cap) n (zob L):=by
 obtain⟨_,hn,hc,hcell⟩:=h;refine⟨by rw[zlt,hn],fun u hu=>?_,?_⟩
 ·obtain⟨o,_,ho⟩:=List.mem_flatMap.1 hu;simp only[zva,List.mem_cons,List.not_mem_nil,or_false] at ho;rcases ho with rfl|rfl|rfl|rfl<;>rfl
 ·by_cases hne:L=[]
  ·subst hne;simp only[yav] at hn;subst hn;cases ao with
   | none=>left;rw[hz rfl];exact⟨rfl,rfl⟩
   | some ad=>right;exact⟨ad,_,rfl,fun j u hj=>by simp[zob] at hj⟩
  ·obtain⟨b,o,rfl,q⟩:=hcell hne;refine .inr ⟨_,_,rfl,fun j u hj=>?_⟩;have hjl:=(yai.1 hj).1;rw[zlt] at hjl;have hk:j / 4<L.length:=by omega
   obtain⟨p,hp⟩:∃p,L[j / 4]?=some p:=⟨_,List.getElem?_eq_getElem hk⟩;have hg:=zlu L (j / 4) (j % 4) p hp (by omega);rw[show j / 4*4+j % 4=j by omega] at hg;rw[hg] at hj;obtain⟨q0,q1,q2,q3⟩:=q _ p hp;have ea:(⟨b,o,none⟩:Addr).add j=⟨b,o+(j / 4*4+j % 4),none⟩:=by
    rw[show j / 4*4+j % 4=j by omega];cases j<;>simp[Addr.add]
   rw[ea];have h4:j % 4=0∨j % 4=1∨j % 4=2∨j % 4=3:=by omega
   rcases h4 with e|e|e|e<;>rw[e] at hj⊢<;>simp only[zva,yaa,yab,Option.some.injEq] at hj<;>subst hj
   ·exact q0
   ·rw[←Nat.add_assoc];exact q1
   ·rw[←Nat.add_assoc];exact q2
   ·rw[←Nat.add_assoc];exact q3
theorem zzg{w:World}{base:Nat}{e:TypeId}{sz:Nat}(h:base≤w.heap.size):(w.alloc (.cells #[] e)).ownsRow base e sz (.slice (some ⟨w.heap.size,0,none⟩) 0 0) 0 [] :=
 ⟨by simp,.inr ⟨_,_,_,rfl,h,heap_alloc_new _ _,yax _,Nat.zero_le _,by simp,by simp⟩⟩
def zer(o:OpD):OpD:=⟨o.kind,0,o.b,o.c⟩
theorem z4d{o:OpD}(h:o.Ok):(zer o).Ok:=⟨h.kind,show zcm 0 by constructor<;>decide,h.b,h.c⟩
theorem z6j{L:List OpD}:∀o∈L.map zer,o.a=0:=fun o ho=>by
 obtain⟨p,_,rfl⟩:=List.mem_map.1 ho;rfl
theorem zmx(s:za7):ze9 1 s=[s.W 0,bit (s.F 0),s.B 0]:=rfl
theorem zrv{w:World}{g o b:Nat}{v:Value}(h:b≠g):(w.setCell ⟨g,o,none⟩ v).heap[b]?=w.heap[b]?:=Below.heap_setCell _ _ _ _ h
def OcV(lo:Nat)(v:Value)(L:List OpD)(j:Nat)(w:World):Prop :=
 ∃vp vc,v = .slice vp L.length vc∧L.length≤vc∧(L≠[]→∃g cur,vp=some ⟨g,0,none⟩∧lo≤g∧w.heap[g]?=some (.cells cur 45 (0,0))∧∀k p,L[k]?=some p→zj2 w g (k*4) (if k<j then zer p else p))
theorem OcV.same{lo:Nat}{v:Value}{L:List OpD}{j:Nat}{w w':World}(h:OcV lo v L j w)(hk:∀b,b<w.heap.size→w'.heap[b]?=w.heap[b]?):OcV lo v L j w':=by
 obtain⟨vp,vc,e,h1,h2⟩:=h;refine⟨vp,vc,e,h1,fun hL=>?_⟩;obtain⟨g,cur,e1,h3,h4,h5⟩:=h2 hL;have hg:=hk g (yah.1 h4).1;refine⟨g,cur,e1,h3,hg.trans h4,fun k p hp=>?_⟩;obtain⟨q0,q1,q2,q3⟩:=h5 k p hp;exact⟨(World.cell?_of_block hg).trans q0,(World.cell?_of_block hg).trans q1,(World.cell?_of_block hg).trans q2,(World.cell?_of_block hg).trans q3⟩
theorem z4z{lo:Nat}{v:Value}{L:List OpD}{w:World}(h:w.ownsRow lo 45 4 v L.length (zob L)):OcV lo v L 0 w:=by
 have qo:=h.1;rcases h.2 with⟨e,e0⟩|⟨g,cap,cur,e,q0,q1,q2,_,q3,q4⟩
 ·refine⟨none,0,?_,by omega,fun hL=>?_⟩
  ·rw[e,e0]
  ·exact absurd (List.eq_nil_of_length_eq_zero e0) hL
 ·refine⟨_,_,e,q2,fun hL=>⟨g,cur,rfl,q0,q1,fun k p hp=>?_⟩⟩;have hk':=(yai.1 hp).1;rw[if_neg (by omega)];have get:∀r,r<4→cur[k*4+r]?=(zva p)[r]?:=fun r hr=>by
   rw[←zlu L k r p hp hr,←q4,List.getElem?_take_of_lt (by omega)];simp
  unfold zj2;rw[←Nat.add_zero (k*4)];rw[zab q1,zab q1,zab q1,zab q1,get 0 (by omega),Nat.add_zero,get 1 (by omega),get 2 (by omega),get 3 (by omega)];exact⟨rfl,rfl,rfl,rfl⟩
theorem OcV.step{lo g:Nat}{vc j:Nat}{L:List OpD}{w:World}(h:OcV lo (.slice (some ⟨g,0,none⟩) L.length vc) L j w):OcV lo (.slice (some ⟨g,0,none⟩) L.length vc) L (j+1) (w.setCell ⟨g,j*4+1,none⟩ (.int .i64 0)):=by
 obtain⟨vp,vc',e,h1,h2⟩:=h;simp only[Value.slice.injEq] at e;obtain⟨rfl,-,rfl⟩:=e;refine⟨_,_,rfl,h1,fun hL=>?_⟩;obtain⟨g',cur,e1,h3,h4,h5⟩:=h2 hL;simp only[Option.some.injEq,Addr.mk.injEq,and_true] at e1;subst e1;have st:=zal h4 (j*4+1) (.int .i64 0);refine⟨g,_,rfl,h3,st,fun k p hp=>?_⟩;have h0:=h5 k p hp;by_cases e:k=j
 ·subst e;rw[if_neg (Nat.lt_irrefl _)] at h0;rw[if_pos (Nat.lt_succ_self _)];obtain⟨q0,q1,q2,q3⟩:=h0;rw[zab h4] at q0 q1 q2 q3;have qp:=(yah.1 q1).1;refine⟨?_,?_,?_,?_⟩<;>rw[zab st]
  ·rw[Array.getElem?_setIfInBounds_ne (by omega)];exact q0
  ·rw[Array.getElem?_setIfInBounds_self_of_lt qp];rfl
  ·rw[Array.getElem?_setIfInBounds_ne (by omega)];exact q2
  ·rw[Array.getElem?_setIfInBounds_ne (by omega)];exact q3
 ·have e2:(if k<j+1 then zer p else p)=(if k<j then zer p else p):=by
   by_cases h6:k<j
   ·rw[if_pos h6,if_pos (by omega)]
   ·rw[if_neg h6,if_neg (by omega)]
  rw[e2];generalize (if k<j then zer p else p)=q at h0;obtain⟨q0,q1,q2,q3⟩:=h0;rw[zab h4] at q0 q1 q2 q3;refine⟨?_,?_,?_,?_⟩<;>rw[zab st,Array.getElem?_setIfInBounds_ne (by omega)]
  ·exact q0
  ·exact q1
  ·exact q2
  ·exact q3
theorem OcV.ops{lo vc:Nat}{vp:Option Addr}{L:List OpD}{w:World}(hok:∀o∈L,o.Ok)(h:OcV lo (.slice vp L.length vc) L L.length w):OpsIn w vp (L.map zer).length vc (L.map zer):=by
 obtain⟨vp',vc',e,h1,h2⟩:=h;simp only[Value.slice.injEq] at e;obtain⟨rfl,-,rfl⟩:=e;refine⟨fun o ho=>?_,rfl,by simpa using h1,fun hL=>?_⟩
 ·obtain⟨p,hp,rfl⟩:=List.mem_map.1 ho;exact z4d (hok p hp)
 ·obtain⟨g,cur,e1,h3,h4,h5⟩:=h2 (fun z=>hL (by rw[z];rfl));refine⟨g,0,e1,fun k p hp=>?_⟩;rw[List.getElem?_map] at hp;cases h6:L[k]? with
  | none=>rw[h6] at hp;cases hp
  | some q =>
   rw[h6] at hp;obtain rfl:zer q=p:=by simpa using hp
   have:=h5 k q h6;rw[if_pos (yai.1 h6).1] at this;rw[Nat.zero_add];exact this
end Go.Proofs.Ytofacoojpgkbiaa
