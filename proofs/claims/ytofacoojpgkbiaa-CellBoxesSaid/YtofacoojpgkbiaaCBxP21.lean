/-
  A part of a proof. No condition of its own.
-/
import Derived.Deep.DeepCutAuto
import Derived.Test.YtofacoojpgkbiaaCBxP20
set_option linter.unusedVariables false
set_option maxHeartbeats 8000000
set_option linter.unusedSimpArgs false
namespace Go.Proofs.Ytofacoojpgkbiaa
open Go.Conc Go.RowKit
open Go.ConcN (upd upd_ne upd_same)
set_option maxRecDepth 100000
theorem zj2 (b:Nat) (v:Bool) (w:World) (hc:w.cell? ⟨b,0,none⟩=some (.int .u32 (bit v))):Calls Try.prog 36 #[.pointer (some ⟨b,0,none⟩)] w fun e w'=>e = .returned (.bool v)∧w=w':=by
 have hl:=fun d=>zlt b 0 v (w.drewN d) hc;have h0:=zlt b 0 v w hc;have hne:∀ w:World,(binOp .neq 75 (.pointer (some ⟨b,0,none⟩)) (.pointer none)).run Try.prog w = .ok (.bool true) w:=fun w=>by rfl
 clear hc;go_enter Try.func36,Try.ntmps36
 go_wp2_with (go_at_call 104;refine h0.mono ?_;rintro e w' ⟨rfl,rfl⟩)
 go_ret
 exact ⟨rfl,rfl⟩
theorem zfu (b:Nat) (v:Int) (w:World) (hc:w.cell? ⟨b,0,none⟩=some (.int .i64 v)):Calls Try.prog 37 #[.pointer (some ⟨b,0,none⟩)] w fun e w'=>e = .returned (.int .i64 v)∧w=w':=by
 have h0:=zo1 b 0 v w hc;have hne:∀ w:World,(binOp .eql 73 (.pointer (some ⟨b,0,none⟩)) (.pointer none)).run Try.prog w = .ok (.bool false) w:=fun w=>by rfl
 clear hc;go_enter Try.func37,Try.ntmps37
 go_wp2_with (go_at_call 87;refine h0.mono ?_;rintro e w' ⟨rfl,rfl⟩)
 go_ret
 exact ⟨rfl,rfl⟩
theorem zda (b:Nat) {p:Option Addr} {v:Int} (w:World) (hc:w.cell? ⟨b,0,none⟩=some (.pointer p)) (hk:KeptI w p v):Calls Try.prog 38 #[.pointer (some ⟨b,0,none⟩)] w fun e w'=>e = .returned (.int .i64 v)∧w=w':=by
 have h0:=ptrLoadI b 0 w hc hk;have h1:=valueI_walk w hk;have hne:∀ w:World,(binOp .eql 77 (.pointer (some ⟨b,0,none⟩)) (.pointer none)).run Try.prog w = .ok (.bool false) w:=fun w=>by rfl
 clear hc hk;go_enter Try.func38,Try.ntmps38
 go_wp2_with (first|(go_at_call 106;refine h0.mono ?_;rintro e w' ⟨rfl,rfl⟩)|(go_at_call 105;refine h1.mono ?_;rintro e w' ⟨rfl,rfl⟩))
 go_ret
 exact ⟨rfl,rfl⟩
theorem zm1 (a b:List Int):zfc (a++b)=zfc a++zfc b:=by simp [zfc]
theorem zru (w:World) (x y z:Int):zng (w.alloc (.cells #[.int .i64 x,.int .i64 y,.int .i64 z] 2)) (.slice (some ⟨w.heap.size,0,none⟩) 3 3) 3 [.int .i64 x,.int .i64 y,.int .i64 z]:=by
 have hc:=heap_alloc_new w (.cells #[.int .i64 x,.int .i64 y,.int .i64 z] 2);refine ⟨rfl,by intro u hu;simp at hu;rcases hu with rfl|rfl|rfl<;>rfl,.inr ⟨_,3,rfl,fun j u hj=>?_⟩⟩;have e:(⟨w.heap.size,0,none⟩:Addr).add j=⟨w.heap.size,j,none⟩:=by simp [Addr.add];try (intro h;exact h.symm)
 rw [e,zae hc j]
 simpa using hj
theorem zn5 {L:CL} {s:zge} {own:Nat→Owner} {P:Nat} {w:World} (hC:zoy L s own w) (hP:PlAt P L own w) :
  Calls Try.prog 97 #[gpv P] w fun e w'=>∃ v,e = .returned v∧w'.ownsRow w.heap.size 2 1 v (3 * L.n) (zfc (zos L.n s.W s.F s.B))∧Below w.heap.size w w':=by
 obtain ⟨i1,hi1,hz1,hz11,hz12⟩:=info_parts info2g;obtain ⟨_,vw,vf,vb,hPl,⟨aw,cw,rfl,_,hrw⟩,⟨af,cf,rfl,_,hrf⟩,⟨ab,cb,rfl,_,hrb⟩⟩:=hP;obtain ⟨n,hn⟩:∃ n,L.n=n:=⟨_,rfl⟩;have hn6:=hC.n;rw [hn] at hPl hrw hrf hrb hn6 ⊢;obtain ⟨N,hN⟩:∃ N,w.heap.size=N:=⟨_,rfl⟩;have lt:∀ {b:Nat} {o:Obj},w.heap[b]?=some o→b < N:=fun {b o} e=>by rw [← hN];exact (yah.1 e).1
 have facts:Hid (∀ wr,Below N w wr→∀ j,j < n→∃ rw_ rf_ rb_ p,aw=some ⟨rw_,0,none⟩∧af=some ⟨rf_,0,none⟩∧ab=some ⟨rb_,0,none⟩∧wr.cell? ⟨rw_,j,none⟩=some (gpv (L.wb j))∧wr.cell? ⟨rf_,j,none⟩=some (gpv (L.fb j))∧wr.cell? ⟨rb_,j,none⟩=some (gpv (L.bb j)) ∧
   wr.cell? ⟨L.wb j,0,none⟩=some (.int .i64 (s.W j))∧wr.cell? ⟨L.fb j,0,none⟩=some (.int .u32 (bit (s.F j)))∧wr.cell? ⟨L.bb j,0,none⟩=some (.pointer p)∧KeptI wr p (s.B j)):=yay fun wr hb j hj=>by
  obtain ⟨rw_,rwc,e1,_,ew,cw'⟩:=hrw (by omega);obtain ⟨rf_,rfc,e2,_,ef,cf'⟩:=hrf (by omega);obtain ⟨rb_,rbc,e3,_,eb,cb'⟩:=hrb (by omega);have hjL:j < L.n:=by omega
  have aW:=(hC.wo j hjL).at_;have aF:=(hC.fl j hjL).at_;obtain ⟨p,aB,hH⟩:=(hC.bo j hjL).cell;have k:∀ {b:Nat} {o:Obj},w.heap[b]?=some o→wr.heap[b]?=some o:=fun {b o} e=>(hb.block b (lt e)).trans e;refine ⟨rw_,rf_,rb_,p,e1,e2,e3,(zae (k ew) j).trans (cw' j hj),(zae (k ef) j).trans (cf' j hj),(zae (k eb) j).trans (cb' j hj),zae (k aW) 0,zae (k aF) 0,zae (k aB) 0,?_⟩;rcases hH with ⟨_,⟨_,h1,h2⟩|⟨_,kb,h1,_,h2⟩⟩
  ·exact .inl ⟨h2,h1⟩
  ·exact .inr ⟨kb,h1,k h2⟩
 have fP:Hid (∀ wr,Below N w wr→wr.cell? ⟨P,0,none⟩=some (.slice aw n cw)∧wr.cell? ⟨P,1,none⟩=some (.slice af n cf)∧wr.cell? ⟨P,2,none⟩=some (.slice ab n cb)):=yay fun wr hb=>by
  have g:=(hb.block _ (lt hPl)).trans hPl;exact ⟨zae g 0,zae g 1,zae g 2⟩
 have hneF:∀ w:World,True:=fun _=>trivial;clear hC hrw hrf hrb lt hPl hneF;obtain ⟨p0,_,_⟩:=fP.out w (Below.refl _ _);rw [hN];replace hN:=yay hN;replace hn:=yay hn;unfold gpv;go_enter Try.func97,Try.ntmps97
 go_wp2_with fail
 clear p0
 go_loopw [3,12] (fun va iv wr=>∃ (j:Nat),j≤n∧iv = .int .i64 j∧Hid (wr.ownsRow N 2 1 va (3 * j) (zfc (zos j s.W s.F s.B)))∧Hid (Below N w wr)) (fun _ iv _=>n - (intOf iv).toNat)
 case atStart=>exact ⟨0,by omega,rfl,yay (World.ownsRow_nil _ _ _ _),yay (Below.refl _ _)⟩
 case round =>
  obtain ⟨j,hj,rfl,HS,HB⟩:=hrel;obtain ⟨vp,vc,rfl⟩:=zc8 HS.out;by_cases hlt2:j < n
  ·have hlt':(j:Int) < (n:Int):=by omega
   have hj0:(0:Int)≤(j:Int):=by omega
   have e1:IntKind.i64.wrap ((j:Int)+1)=((j+1:Nat):Int):=by rw [IntKind.wrap_i64];omega
   obtain ⟨rw_,rf_,rb_,p,rfl,rfl,rfl,r0,r1,r2,q0,q1,q2,q3⟩:=facts.out wr HB.out j hlt2;obtain ⟨p0,p1,p2⟩:=fP.out wr HB.out;have HVF:=yay (zj2 _ _ wr q1);have HVW:=yay (zfu _ _ wr.drew q0);have HVB:=yay (zda _ wr.drew q2 (show KeptI wr.drew p (s.B j) from q3))
   clear q0 q1 q2 q3;have hsz:=yay (hN.out▸HB.out.size);have hcs:=yay (zqu j s.W s.F s.B);generalize hWv:s.W j=xW at *;generalize hFv:s.F j=xF at *;generalize hBv:s.B j=xB at *;replace hWv:=yay hWv;replace hFv:=yay hFv;replace hBv:=yay hBv;obtain ⟨M,hM⟩:∃ M,wr.heap.size=M:=⟨_,rfl⟩;have HSx:=zru wr.drew xW (bit xF) xB;rw [show wr.drew.heap.size=M from hM] at HSx
   have HO1:=(show wr.drew.ownsRow N 2 1 _ (3 * j) _ from HS.out).alloc (.cells #[.int .i64 xW,.int .i64 (bit xF),.int .i64 xB] 2)
   have HBa:=HB.out.drew.alloc hsz.out (.cells #[.int .i64 xW,.int .i64 (bit xF),.int .i64 xB] 2);obtain ⟨v',w2,hrun,ha⟩:=zce (P:=Try.prog) (wr.drew.alloc (.cells #[.int .i64 xW,.int .i64 (bit xF),.int .i64 xB] 2)) N 22 22 2 i1 _ _ Try.underlying22 hi1 hz1 hz11 hz12 rfl (.slice vp (3 * j) vc) (3 * j) _ HO1 (.slice (some ⟨M,0,none⟩) 3 3) 3 _ HSx (by unfold maxLen;omega) (by omega) (by have:=hsz.out;simp;omega);obtain ⟨p',c',rfl⟩:=zc8 ha.1;have HRUN:Hid ((Builtin.append_ #[22,22] 22 #[.slice vp (3 * j) vc,.slice (some ⟨M,0,none⟩) 3 3]).run Try.prog (wr.drew.alloc (.cells #[.int .i64 xW,.int .i64 (bit xF),.int .i64 xB] 2)) = .ok (.slice p' (3 * j+3) c') w2):=yay hrun;have HNX:Hid (w2.ownsRow N 2 1 (.slice p' (3 * (j+1)) c') (3 * (j+1)) (zfc (zos (j+1) s.W s.F s.B))∧Below N w w2):=yay ⟨by
    have:=ha.1;rw [hcs.out,show 3 * (j+1)=3 * j+3 by omega,zm1];exact this,zew HO1 HBa (by have:=hsz.out;simp;omega) ha.2.1⟩
   replace hM:=yay hM;clear hrun ha HSx HO1 HBa;unfold gpv at r0 r1 r2;cases xF with
   | false =>
    rw [show bit false=0 from rfl] at HRUN
    go_upto_region 8 with (go_at_call 36;refine HVF.out.mono ?_;rintro e w' ⟨rfl,rfl⟩)
    clear HVF;have hM':=hM.out
    go_region_law (first
     | (refine za9 (by rfl) _ _ 22 22 (by rfl) (.slice vp (3 * j) vc) (.slice (some ⟨M,0,none⟩) 3 3) (by rfl) (by rfl) HRUN.out ?_)
     | (go_simp;go_wp2_with (first|(go_at_call 37;refine HVW.out.mono ?_;rintro e w' ⟨rfl,rfl⟩)|(go_at_call 38;refine HVB.out.mono ?_;rintro e w' ⟨rfl,rfl⟩))))
    all_goals go_wp2_with fail
    all_goals exact ⟨⟨j+1,by omega,by rw [Int.natCast_add];rfl,yay HNX.out.1,yay HNX.out.2⟩,by simp [intOf];omega⟩
   | true =>
    rw [show bit true=1 from rfl] at HRUN
    go_upto_region 8 with (go_at_call 36;refine HVF.out.mono ?_;rintro e w' ⟨rfl,rfl⟩)
    clear HVF;have hM':=hM.out
    go_region_law (first
     | (refine za9 (by rfl) _ _ 22 22 (by rfl) (.slice vp (3 * j) vc) (.slice (some ⟨M,0,none⟩) 3 3) (by rfl) (by rfl) HRUN.out ?_)
     | (go_simp;go_wp2_with (first|(go_at_call 37;refine HVW.out.mono ?_;rintro e w' ⟨rfl,rfl⟩)|(go_at_call 38;refine HVB.out.mono ?_;rintro e w' ⟨rfl,rfl⟩))))
    all_goals go_wp2_with fail
    all_goals exact ⟨⟨j+1,by omega,by rw [Int.natCast_add];rfl,yay HNX.out.1,yay HNX.out.2⟩,by simp [intOf];omega⟩
  ·have hlt':¬ (j:Int) < (n:Int):=by omega
   obtain rfl:j=n:=by omega
   go_wp2_with fail
   go_ret
   exact ⟨_,rfl,HS.out,HB.out⟩
theorem info73:(Try.prog.info? 73).map (fun i=>(i.zero,i.size,i.bytes))=some (some (.pointer none),1,8):=by kernel_rfl
theorem info75:(Try.prog.info? 75).map (fun i=>(i.zero,i.size,i.bytes))=some (some (.pointer none),1,8):=by kernel_rfl
theorem info77:(Try.prog.info? 77).map (fun i=>(i.zero,i.size,i.bytes))=some (some (.pointer none),1,8):=by kernel_rfl
theorem zn6 (w:World) (b:Nat) (t:TypeId):zng (w.alloc (.cells #[gpv b] t)) (.slice (some ⟨w.heap.size,0,none⟩) 1 1) 1 [gpv b] :=
 ⟨rfl,by intro u hu;simp at hu;subst hu;rfl,.inr ⟨_,1,rfl,fun j u hj=>by
  rcases j with _|j
  ·simp at hj;subst hj;have e:(⟨w.heap.size,0,none⟩:Addr).add 0=⟨w.heap.size,0,none⟩:=rfl;rw [e,zae (heap_alloc_new w (.cells #[gpv b] t)) 0];rfl
  ·simp at hj⟩⟩
def MadeD (l:List Int) (w:World) (e:Ending) (w':World):Prop :=
 ∃ wb fb bb kb vw vf vb,e = .returned (gpv w.heap.size)∧MkM w w.heap.size l (min l.length 65536) (min l.length 65536) (min l.length 65536) wb fb bb kb vw vf vb w'
theorem zsi {vs:Value} {l:List Int} {w:World} (hS:IntsIn w vs l) (hlen:l.length≤4611686018427387904):Calls Try.prog 95 #[vs] w (MadeD l w):=by
 obtain ⟨i1,hi1,hz1,hz11,hz12⟩:=info_parts info73;obtain ⟨i2,hi2,hz2,hz21,hz22⟩:=info_parts info75;obtain ⟨i3,hi3,hz3,hz31,hz32⟩:=info_parts info77;obtain ⟨hI,a,cap,rfl,hcap,hcell⟩:=hS;unfold MadeD;obtain ⟨n,hn⟩:∃ n,l.length=n:=⟨_,rfl⟩;obtain ⟨k,hk⟩:∃ k,min n 65536=k:=⟨_,rfl⟩;rw [hn] at hcap hlen ⊢;rw [hk];have hk2:min (n:Int) 65536=k:=by omega
 have hk3:k≤n:=by omega
 have hk4:k≤65536:=by omega
 have hkc:(k:Int)≤(cap:Int):=by omega
 have hk0:(0:Int)≤(k:Int):=by omega
 obtain ⟨N,hN⟩:∃ N,w.heap.size=N:=⟨_,rfl⟩;have H0:Hid (MkM w N l 0 0 0 (fun _=>0) (fun _=>0) (fun _=>0) (fun _=>0) (.slice none 0 0) (.slice none 0 0) (.slice none 0 0) (w.alloc (.cells #[.slice none 0 0,.slice none 0 0,.slice none 0 0] 256))) :=
  yay ⟨by rw [← hN];exact heap_alloc_new _ _,World.ownsRow_nil _ _ _ _,World.ownsRow_nil _ _ _ _,World.ownsRow_nil _ _ _ _,fun i hi=>absurd hi (Nat.not_lt_zero _),fun i hi=>absurd hi (Nat.not_lt_zero _),fun i hi=>absurd hi (Nat.not_lt_zero _),fun i _ hi=>absurd hi (Nat.not_lt_zero _),fun i _ hi=>absurd hi (Nat.not_lt_zero _),fun i _ hi=>absurd hi (Nat.not_lt_zero _),fun i _ hi=>absurd hi (Nat.not_lt_zero _),by rw [← hN];exact (Below.refl _ _).alloc (yax _) _,by simp;omega⟩
 rw [hN];replace hN:=yay hN;replace hcell:=yay hcell;replace hI:=yay hI;replace hn:=yay hn;replace hk:=yay hk;go_enter Try.func95,Try.ntmps95
 go_wp2_with (refine zkv rfl _ _ _ _ rfl n 65536 k rfl rfl hk2 ?_)
 rw [hN.out]
 go_loopw [14] (fun iv wr=>∃ (j:Nat) (wb fb bb kb:Nat→Nat) (vw vf vb:Value),j≤k∧iv = .int .i64 j∧Hid (MkM w N l j j j wb fb bb kb vw vf vb wr)) (fun iv _=>k - (intOf iv).toNat)
 case atStart=>exact ⟨0,_,_,_,_,_,_,_,by omega,rfl,H0⟩
 case round =>
  obtain ⟨j,wb,fb,bb,kb,vw,vf,vb,hj,rfl,HM⟩:=hrel;by_cases hlt:j < k
  ·have hlt':(j:Int) < (k:Int):=by omega
   have hj0:(0:Int)≤(j:Int):=by omega
   have e1:IntKind.i64.wrap ((j:Int)+1)=((j+1:Nat):Int):=by rw [IntKind.wrap_i64];omega
   obtain ⟨x,hx⟩:∃ x,l[j]?=some x:=⟨_,List.getElem?_eq_getElem (by rw [hn.out];omega)⟩;have hxg:l.getD j 0=x:=by rw [List.getD_eq_getElem?_getD,hx];rfl
   obtain ⟨b,off,rfl,hcl⟩:=hcell.out (by intro z;rw [z] at hx;simp at hx);have c0:=hcl j x hx;have cx:wr.cell? ⟨b,off+j,none⟩=some (.int .i64 x):=(World.cell?_of_block (w:=w) (HM.out.low.block _ (by rw [← hN.out];exact World.block_lt_of_cell? w _ c0))).trans c0;clear hcl c0;replace hx:=yay hx;replace hxg:=yay hxg;go_upto_region 5 with fail
   clear cx;obtain ⟨vp,vc,rfl⟩:=zc8 HM.out.rw_;obtain ⟨W,hW⟩:∃ W,wr.heap.size=W:=⟨_,rfl⟩;have hNW:=HM.out.lt;have H1:=HM.out.drew;have H1:=H1.alloc (.cells #[.int .i64 x] 102);have e0:(wr.drew.alloc (.cells #[.int .i64 x] 102)).heap.size=W+1:=by simp;omega
   have a1:(wr.drew.alloc (.cells #[.int .i64 x] 102)).heap[W]?=some (.cells #[.int .i64 x] 102 (0,0)):=by
    rw [← hW];exact heap_alloc_new wr.drew _
   have H2:=H1.alloc (.cells #[gpv W] 73);have HSX:=zn6 (wr.drew.alloc (.cells #[.int .i64 x] 102)) W 73;rw [e0] at HSX;have al:∀ {a:Addr} {v:Value} (w1:World) (o:Obj),w1.cell? a=some v→(w1.alloc o).cell? a=some v:=fun {a v} w1 o hv=>(World.cell?_of_block (w:=w1) (Below.heap_alloc _ _ _ (World.block_lt_of_cell? w1 _ hv))).trans hv;have m0:=zae HM.out.pl 0;simp only [yac,yaa,yab] at m0;have m1:=al wr (.cells #[.int .i64 x] 102) m0;have m2:=al (wr.alloc (.cells #[.int .i64 x] 102)) (.cells #[gpv W] 73) m1;clear al;obtain ⟨v',w2,hrun,ha⟩:=zce (P:=Try.prog) ((wr.drew.alloc (.cells #[.int .i64 x] 102)).alloc (.cells #[gpv W] 73)) N 252 252 73 i1 _ 8 Try.underlying252 hi1 hz1 hz11 hz12 rfl (.slice vp j vc) j _ H2.rw_ (.slice (some ⟨W+1,0,none⟩) 1 1) 1 [gpv W] HSX (by unfold maxLen;omega) (by omega) (by have:=H2.lt;omega);obtain ⟨p',c',rfl⟩:=zc8 ha.1;obtain ⟨hmb,HR⟩:=H2.word ((Below.heap_alloc _ _ _ (by rw [e0];omega)).trans (by rw [hxg.out];exact a1)) (by omega) (fun i hi z=>(by have:=(yah.1 (HM.out.wo i hi).2).1;omega)) ha;have d0:w2.cell? ⟨N,0,none⟩=some (.slice vp j vc):=by
    rw [zae (hmb.trans H2.pl) 0];rfl
   have f0:=zau (hmb.trans H2.pl) 0;have HRUN:Hid ((Builtin.append_ #[252,252] 252 #[.slice vp j vc,.slice (some ⟨W+1,0,none⟩) 1 1]).run Try.prog ((wr.drew.alloc (.cells #[.int .i64 x] 102)).alloc (.cells #[gpv W] 73)) = .ok (.slice p' (j+1) c') w2):=yay hrun;replace HR:=yay HR;replace hW:=yay hW;replace HM:=yay HM;clear hrun ha HSX H1 H2 a1 e0 hmb hNW
   go_cut [18] (fun v wx=>wx=w2.setCell ⟨N,0,none⟩ (.slice p' (j+1) c'))
   case first =>
    unfold gpv at *;have hW':=hW.out
    go_region_law (first
     | (refine za9 (by rfl) _ _ 252 252 (by rfl) (.slice vp j vc) (.slice (some ⟨W+1,0,none⟩) 1 1) (by rfl) (by rfl) HRUN.out ?_)
     | (go_simp;go_wp2_with (go_at_call 32;refine (zh6 _ _).mono ?_;rintro e w' ⟨rfl,rfl⟩)))
    all_goals (go_wp2_with fail;go_meet)
    all_goals rfl
   case rest =>
   subst hcut;clear HRUN d0 f0 m0 m1 m2 hW HM;generalize w2.setCell ⟨N,0,none⟩ (.slice p' (j+1) c')=wr at *;have HM:=HR;clear HR;go_upto_region 6 with fail
   obtain ⟨vp,vc,rfl⟩:=zc8 HM.out.rf_;obtain ⟨W,hW⟩:∃ W,wr.heap.size=W:=⟨_,rfl⟩;have hNW:=HM.out.lt;have H1:=HM.out.drew;have H1:=H1.alloc (.cells #[.int .u32 (bit false)] 107);have H1:=H1.drew;have e0:(wr.drew.alloc (.cells #[.int .u32 (bit false)] 107)).drew.heap.size=W+1:=by simp;omega
   have a1:(wr.drew.alloc (.cells #[.int .u32 (bit false)] 107)).drew.heap[W]?=some (.cells #[.int .u32 (bit false)] 107 (0,0)):=by
    rw [← hW];exact heap_alloc_new wr.drew _
   have H2:=H1.alloc (.cells #[gpv W] 75);have HSX:=zn6 (wr.drew.alloc (.cells #[.int .u32 (bit false)] 107)).drew W 75;rw [e0] at HSX;have al:∀ {a:Addr} {v:Value} (w1:World) (o:Obj),w1.cell? a=some v→(w1.alloc o).cell? a=some v:=fun {a v} w1 o hv=>(World.cell?_of_block (w:=w1) (Below.heap_alloc _ _ _ (World.block_lt_of_cell? w1 _ hv))).trans hv;have m0:=zae HM.out.pl 1;simp only [yac,yaa,yab] at m0;have m1:=al wr (.cells #[.int .u32 (bit false)] 107) m0;have m2:=al (wr.alloc (.cells #[.int .u32 (bit false)] 107)) (.cells #[gpv W] 75) m1;clear al;obtain ⟨v',w2,hrun,ha⟩:=zce (P:=Try.prog) ((wr.drew.alloc (.cells #[.int .u32 (bit false)] 107)).drew.alloc (.cells #[gpv W] 75)) N 253 253 75 i2 _ 8 Try.underlying253 hi2 hz2 hz21 hz22 rfl (.slice vp j vc) j _ H2.rf_ (.slice (some ⟨W+1,0,none⟩) 1 1) 1 [gpv W] HSX (by unfold maxLen;omega) (by omega) (by have:=H2.lt;omega);obtain ⟨p',c',rfl⟩:=zc8 ha.1;obtain ⟨hmb,HR⟩:=H2.flag ((Below.heap_alloc _ _ _ (by rw [e0];omega)).trans a1) (by omega) (fun i hi z=>(by have:=(yah.1 (HM.out.fl i hi).2).1;omega)) ha;have d0:w2.cell? ⟨N,1,none⟩=some (.slice vp j vc):=by
    rw [zae (hmb.trans H2.pl) 1];rfl
   have f0:=zau (hmb.trans H2.pl) 1;have HRUN:Hid ((Builtin.append_ #[253,253] 253 #[.slice vp j vc,.slice (some ⟨W+1,0,none⟩) 1 1]).run Try.prog ((wr.drew.alloc (.cells #[.int .u32 (bit false)] 107)).drew.alloc (.cells #[gpv W] 75)) = .ok (.slice p' (j+1) c') w2):=yay hrun;replace HR:=yay HR;replace hW:=yay hW;replace HM:=yay HM;clear hrun ha HSX H1 H2 a1 e0 hmb hNW
   go_cut [29] (fun v wx=>wx=w2.setCell ⟨N,1,none⟩ (.slice p' (j+1) c'))
   case first =>
    unfold gpv at *;have hW':=hW.out
    go_region_law (first
     | (refine za9 (by rfl) _ _ 253 253 (by rfl) (.slice vp j vc) (.slice (some ⟨W+1,0,none⟩) 1 1) (by rfl) (by rfl) HRUN.out ?_)
     | (go_simp;go_wp2_with (go_at_call 33;refine (zmx _ _).mono ?_;rintro e w' ⟨rfl,rfl⟩)))
    all_goals (go_wp2_with fail;go_meet)
    all_goals rfl
   case rest =>
   subst hcut;clear HRUN d0 f0 m0 m1 m2 hW HM;generalize w2.setCell ⟨N,1,none⟩ (.slice p' (j+1) c')=wr at *;have HM:=HR;clear HR;go_upto_region 7 with fail
   obtain ⟨vp,vc,rfl⟩:=zc8 HM.out.rb_;obtain ⟨W,hW⟩:∃ W,wr.heap.size=W:=⟨_,rfl⟩;have hNW:=HM.out.lt;have H1:=HM.out.drew;have H1:=H1.alloc (.cells #[.pointer (some ⟨W+1,0,none⟩)] 113);have H1:=H1.alloc (.cells #[.int .i64 x,.int .i64 0] 184);have e0:((wr.drew.alloc (.cells #[.pointer (some ⟨W+1,0,none⟩)] 113)).alloc (.cells #[.int .i64 x,.int .i64 0] 184)).heap.size=W+2:=by simp;omega
   have a1:((wr.drew.alloc (.cells #[.pointer (some ⟨W+1,0,none⟩)] 113)).alloc (.cells #[.int .i64 x,.int .i64 0] 184)).heap[W]?=some (.cells #[.pointer (some ⟨W+1,0,none⟩)] 113 (0,0)):=by
    rw [← hW];exact (Below.heap_alloc _ _ _ (by simp)).trans (heap_alloc_new wr.drew _)
   have a2:((wr.drew.alloc (.cells #[.pointer (some ⟨W+1,0,none⟩)] 113)).alloc (.cells #[.int .i64 x,.int .i64 0] 184)).heap[W+1]?=some (.cells #[.int .i64 x,.int .i64 0] 184 (0,0)):=by
    have:=heap_alloc_new (wr.drew.alloc (.cells #[.pointer (some ⟨W+1,0,none⟩)] 113)) (.cells #[.int .i64 x,.int .i64 0] 184);rw [show (wr.drew.alloc (.cells #[.pointer (some ⟨W+1,0,none⟩)] 113)).heap.size=W+1 by simp;omega] at this;exact this
   have H2:=H1.alloc (.cells #[gpv W] 77);have HSX:=zn6 ((wr.drew.alloc (.cells #[.pointer (some ⟨W+1,0,none⟩)] 113)).alloc (.cells #[.int .i64 x,.int .i64 0] 184)) W 77;rw [e0] at HSX;have al:∀ {a:Addr} {v:Value} (w1:World) (o:Obj),w1.cell? a=some v→(w1.alloc o).cell? a=some v:=fun {a v} w1 o hv=>(World.cell?_of_block (w:=w1) (Below.heap_alloc _ _ _ (World.block_lt_of_cell? w1 _ hv))).trans hv;have m0:=zae HM.out.pl 2;simp only [yac,yaa,yab] at m0;have m1:=al wr (.cells #[.pointer (some ⟨W+1,0,none⟩)] 113) m0;have m2:=al (wr.alloc (.cells #[.pointer (some ⟨W+1,0,none⟩)] 113)) (.cells #[.int .i64 x,.int .i64 0] 184) m1;have m3:=al ((wr.alloc (.cells #[.pointer (some ⟨W+1,0,none⟩)] 113)).alloc (.cells #[.int .i64 x,.int .i64 0] 184)) (.cells #[gpv W] 77) m2;clear al;obtain ⟨v',w2,hrun,ha⟩:=zce (P:=Try.prog) (((wr.drew.alloc (.cells #[.pointer (some ⟨W+1,0,none⟩)] 113)).alloc (.cells #[.int .i64 x,.int .i64 0] 184)).alloc (.cells #[gpv W] 77)) N 254 254 77 i3 _ 8 Try.underlying254 hi3 hz3 hz31 hz32 rfl (.slice vp j vc) j _ H2.rb_ (.slice (some ⟨W+2,0,none⟩) 1 1) 1 [gpv W] HSX (by unfold maxLen;omega) (by omega) (by have:=H2.lt;omega);obtain ⟨p',c',rfl⟩:=zc8 ha.1;obtain ⟨hmb,HR⟩:=H2.box ((Below.heap_alloc _ _ _ (by rw [e0];omega)).trans a1) ((Below.heap_alloc _ _ _ (by rw [e0];omega)).trans (by rw [hxg.out];exact a2)) (by omega) (fun i hi z=>(by have:=(yah.1 (HM.out.bo i hi).2.2.2).1;omega)) (by omega) (fun i hi z=>(by have:=(yah.1 (HM.out.bo i hi).2.1).1;omega)) ha;have d0:w2.cell? ⟨N,2,none⟩=some (.slice vp j vc):=by
    rw [zae (hmb.trans H2.pl) 2];rfl
   have f0:=zau (hmb.trans H2.pl) 2;have HRUN:Hid ((Builtin.append_ #[254,254] 254 #[.slice vp j vc,.slice (some ⟨W+2,0,none⟩) 1 1]).run Try.prog (((wr.drew.alloc (.cells #[.pointer (some ⟨W+1,0,none⟩)] 113)).alloc (.cells #[.int .i64 x,.int .i64 0] 184)).alloc (.cells #[gpv W] 77)) = .ok (.slice p' (j+1) c') w2):=yay hrun;replace HR:=yay HR;replace hW:=yay hW;replace HM:=yay HM;clear hrun ha HSX H1 H2 a1 a2 e0 hmb hNW;have HNX:Hid (MkM w N l (j+1) (j+1) (j+1) _ _ _ _ _ _ (.slice p' (j+1) c') (w2.setCell ⟨N,2,none⟩ (.slice p' (j+1) c'))):=HR;clear HR;unfold gpv at *;have hW':=hW.out
   go_region_law (first
    | (refine za9 (by rfl) _ _ 254 254 (by rfl) (.slice vp j vc) (.slice (some ⟨W+2,0,none⟩) 1 1) (by rfl) (by rfl) HRUN.out ?_)
    | (go_simp;go_wp2_with (go_at_call 34;refine (zog _ _).mono ?_;rintro e w' ⟨rfl,rfl⟩)))
   all_goals go_wp2_with fail
   all_goals exact ⟨⟨j+1,_,_,_,_,_,_,_,by omega,by rw [Int.natCast_add];rfl,HNX⟩,by simp [intOf];omega⟩
  ·have hlt':¬ (j:Int) < (k:Int):=by omega
   obtain rfl:j=k:=by omega
   go_wp2_with fail
   go_ret
   exact ⟨rfl,wb,fb,bb,kb,vw,vf,vb,HM.out⟩
def stC (l:List Int):zge:=⟨fun i=>l.getD i 0,fun _=>false,fun i=>l.getD i 0,fun _=>1,1⟩
open Classical in
noncomputable def zgx (n N hi:Nat) (wb fb bb kb:Nat→Nat):Nat→Owner:=fun b =>
 if ∃ i,i < n∧(b=wb i∨b=fb i∨b=bb i) then .sh else if h:∃ i,i < n∧b=kb i then .tag (zhc (Classical.choose h) 1+2) else if N≤b∧b < hi then .tag 1 else .out
section
variable {n N hi:Nat} {wb fb bb kb:Nat→Nat}
theorem zla {b:Nat} (h:∃ i,i < n∧(b=wb i∨b=fb i∨b=bb i)):zgx n N hi wb fb bb kb b = .sh:=by unfold zgx;rw [if_pos h]
open Classical in
theorem zuq {i:Nat} (hi':i < n) (h:¬ ∃ j,j < n∧(kb i=wb j∨kb i=fb j∨kb i=bb j)) (hk:∀ i j,i < n→j < n→kb i=kb j→i=j):zgx n N hi wb fb bb kb (kb i) = .tag (zhc i 1+2):=by
 have hx:∃ j,j < n∧kb i=kb j:=⟨i,hi',rfl⟩;unfold zgx;rw [if_neg h,dif_pos hx];have:=Classical.choose_spec hx;rw [← hk i _ hi' this.1 this.2]
theorem zph {b:Nat} (h:¬ ∃ i,i < n∧(b=wb i∨b=fb i∨b=bb i)) (h2:¬ ∃ i,i < n∧b=kb i) (h3:N≤b∧b < hi):zgx n N hi wb fb bb kb b = .tag 1:=by
 unfold zgx;rw [if_neg h,dif_neg h2,if_pos h3]
theorem zmv {b:Nat} (h:¬ ∃ i,i < n∧(b=wb i∨b=fb i∨b=bb i)) (h2:¬ ∃ i,i < n∧b=kb i) (h3:¬ (N≤b∧b < hi)):zgx n N hi wb fb bb kb b = .out:=by
 unfold zgx;rw [if_neg h,dif_neg h2,if_neg h3]
open Classical in
theorem zjg {b t:Nat} (h:zgx n N hi wb fb bb kb b = .tag (t+2)):∃ i,i < n∧b=kb i∧t=zhc i 1:=by
 unfold zgx at h;split at h
 ·cases h
 ·split at h
  ·rename_i hx;have:=Classical.choose_spec hx;exact ⟨_,this.1,this.2,by injection h with h;omega⟩
  ·split at h
   ·injection h with h;omega
   ·cases h
end
theorem zux {w w':World} {l:List Int} {n:Nat} {wb fb bb kb:Nat→Nat} {vw vf vb:Value} (h:MkM w w.heap.size l n n n wb fb bb kb vw vf vb w') (hn:n=min l.length 65536) (hI:∀ x∈l,zcm x) :
  NewF (zhb ⟨n,wb,fb,bb⟩ (PlAt w.heap.size ⟨n,wb,fb,bb⟩)) (stC l) w w' (zgx n w.heap.size w'.heap.size wb fb bb kb):=by
 obtain ⟨N,hN⟩:∃ N,w.heap.size=N:=⟨_,rfl⟩;rw [hN] at h ⊢;have lt:∀ {b:Nat} {o:Obj},w'.heap[b]?=some o→b < w'.heap.size:=fun {b o} e=>(yah.1 e).1;have typ:∀ {b:Nat} {c:Array Value} {t:TypeId},w'.heap[b]?=some (.cells c t (0,0))→t≠102→t≠107→t≠113→¬ ∃ i,i < n∧(b=wb i∨b=fb i∨b=bb i):=fun {b c t} hb h1 h2 h3 ⟨i,hi,z⟩=>by
  rcases z with z|z|z
  ·exact zf0 hb (h.wo i hi).2 h1 z
  ·exact zf0 hb (h.fl i hi).2 h2 z
  ·exact zf0 hb (h.bo i hi).2.1 h3 z
 have typk:∀ {b:Nat} {c:Array Value} {t:TypeId},w'.heap[b]?=some (.cells c t (0,0))→t≠184→¬ ∃ i,i < n∧b=kb i:=fun {b c t} hb h1 ⟨i,hi,z⟩=>zf0 hb (h.bo i hi).2.2.2 h1 z;have h64:∀ i,i < n→zcm (l.getD i 0):=fun i hi=>by
  have hl:i < l.length:=by omega
  rw [List.getD_eq_getElem?_getD,List.getElem?_eq_getElem hl];exact hI _ (List.getElem_mem hl)
 have rowT:∀ {e:TypeId} {v:Value} {f:Nat→Nat},w'.ownsRow N e 1 v n (znn f n)→e≠102→e≠107→e≠113→e≠184→RowT (zgx n N w'.heap.size wb fb bb kb) w'.heap e v n f:=fun {e v f} hr h1 h2 h3 h4=>by
  rcases hr.2 with ⟨rfl,q⟩|⟨g,cap,cur,rfl,q1,q2,q3,q4,q5,q6⟩
  ·exact ⟨none,0,by rw [q],by omega,fun z=>by omega⟩
  ·refine ⟨_,cap,rfl,q3,fun _=>⟨g,cur,rfl,zph (typ q2 h1 h2 h3) (typk q2 h4) ⟨q1,lt q2⟩,q2,fun i hi=>?_⟩⟩;have:cur[i]?=(znn f n)[i]?:=by
    rw [← q6,List.getElem?_take_of_lt (by omega)];simp
   rw [this,zu6 hi]
 have kbs:∀ i,i < n→zgx n N w'.heap.size wb fb bb kb (kb i) = .tag (zhc i 1+2):=fun i hi=>zuq hi (typ (h.bo i hi).2.2.2 (by decide) (by decide) (by decide)) h.ki;have n6:n≤65536:=by omega
 refine ⟨⟨⟨n6,fun i hi=>⟨zla ⟨i,hi,.inl rfl⟩,(h.wo i hi).2,h64 i hi⟩,fun i hi=>⟨zla ⟨i,hi,.inr (.inl rfl)⟩,(h.fl i hi).2⟩,fun i hi=>⟨zla ⟨i,hi,.inr (.inr rfl)⟩,⟨_,(h.bo i hi).2.1,h64 i hi,.inr ⟨Nat.one_pos,kb i,rfl,kbs i hi,(h.bo i hi).2.2.2⟩⟩,fun b b' t q q'=>?_,fun b t q=>?_⟩,h.wi,h.fi,h.bi⟩,
  ⟨zph (typ h.pl (by decide) (by decide) (by decide)) (typk h.pl (by decide)) ⟨yax _,h.lt⟩,vw,vf,vb,h.pl,rowT h.rw_ (by decide) (by decide) (by decide) (by decide),rowT h.rf_ (by decide) (by decide) (by decide) (by decide),rowT h.rb_ (by decide) (by decide) (by decide) (by decide)⟩⟩,fun b hb=>?_,fun b hb=>?_,fun b hb=>h.low.block b (by omega),by have:=h.lt;omega⟩
 ·obtain ⟨i,hi,rfl,e⟩:=zjg q;obtain ⟨j,hj,rfl,e'⟩:=zjg q';have:i=j:=by unfold zhc at e e';omega
  rw [this]
 ·obtain ⟨j,hj,_,e⟩:=zjg q;show t / 65536≤1;unfold zhc at e;omega
 ·have hb':b < N:=by omega
  refine zmv (fun ⟨i,hi,z⟩=>?_) (fun ⟨i,hi,z⟩=>?_) (by omega)
  ·have:=(h.wo i hi).1;have:=(h.fl i hi).1;have:=(h.bo i hi).1;omega
  ·have:=(h.bo i hi).2.2.1;omega
 ·refine zmv (fun ⟨i,hi,z⟩=>?_) (fun ⟨i,hi,z⟩=>?_) (by omega)
  ·have:=lt (h.wo i hi).2;have:=lt (h.fl i hi).2;have:=lt (h.bo i hi).2.1;omega
  ·have:=lt (h.bo i hi).2.2.2;omega
def zjp (l:List Int) (LL:List (List OpD)) (sch:List Int) (most:Int):GSt (SM zge):=zj1 (doC (min l.length 65536) (moF most)) (stC l) LL sch most
def zjb (k:Nat) (s:zge):List Int:=zos k s.W s.F s.B
def trC (l:List Int) (LL:List (List OpD)) (sch:List Int) (most:Int):Tr :=
 ⟨(List.range (min LL.length 64)).map (zjp l LL sch most).m.an,(zjp l LL sch most).ord,zjb (min l.length 65536) (zjp l LL sch most).m.st,decide (0 < zbo (zjp l LL sch most).co (min LL.length 64))⟩
theorem ze1:Prg false Try.prog (·∈[32,33,34,36,37,38,83,87,95,97,100,101,104,105,106,153]):=zgw zah (by kernel_rfl) (by kernel_rfl) (by kernel_rfl)
theorem zob {Q:Machine→Trace→Prop} {fr:Frame} {cs:List Frame} {w:World} {l:List Int} {LL:List (List OpD)} {sch:List Int} {vl vt vs:Value} (hW:IntsIn w vl l) (hT:ThrIn w vt LL) (hLL:LL.length≤1000000000) (hlen:l.length≤1000000000) (hS:IntsIn w vs sch) (hnS:sch.length≤1048576) {most:Int} (hmost:most < 9223372036854775808)
  (hsm:∀ X∈(trC l LL sch most).ans,X.length≤1000000000∧∀ r∈X,r.l.length≤1000000000)
  (h:∀ ar n c vo vs w',(∀ w2:World,(∀ b,w.heap.size≤b→b < w'.heap.size→w2.heap[b]?=w'.heap[b]?)→TrIn w2 (.agg #[.slice (some ⟨ar,0,none⟩) n n,vo,vs,.bool (trC l LL sch most).stuck]) (trC l LL sch most))→TrW w.heap.size w'.heap.size w' ar n c vo vs→(∀ b,b < w.heap.size→w'.heap[b]?=w.heap[b]?)→w.heap.size≤w'.heap.size→(w'.os=w.os∧w'.output=w.output)→RM Try.prog Q (G (Frame.finish fr (.agg #[.slice (some ⟨ar,0,none⟩) n n,vo,vs,.bool (trC l LL sch most).stuck])) cs) w') :
  RM Try.prog Q (G (Frame.enter Try.prog 30 #[vl,vt,vs,.int .i64 most] .normal) (fr::cs)) w:=by
 rw [enter_at _ Try.func30 rfl];simp only [Try.ntmps30,yan,yau,yav,Nat.reduceAdd,Nat.reduceSub,yao,
   yap,yaq,yar,yas,yat]
 replace h:=yay h;refine zaf rm_xc fun R0 hR0=>?_;refine zbg prgN (zab zah (by kernel_rfl)) rfl (zaa Try.func30) rfl fun wp hp=>?_
 go_wp2_with fail
 refine fun wa ha=>?_;obtain ⟨N,hN⟩:∃ N,w.heap.size=N:=⟨_,rfl⟩;have sz0:wp.heap.size=N:=by rw [hp.heap];exact hN
 have szA:wa.heap.size=N+1:=by rw [ha.heap];simp [sz0]
 have eA:wa.heap[N]?=some (.cells #[.slice none 0 0,.slice none 0 0,.slice none 0 0,.bool false] 31 (0,0)):=by rw [ha.heap,← sz0];exact heap_alloc_new _ _
 have lowA:∀ b,b < N→wa.heap[b]?=w.heap[b]?:=fun b hb=>by rw [ha.heap,Below.heap_alloc _ _ _ (by omega),hp.heap]
 have outA:wa.os=w.os∧wa.output=w.output:=⟨ha.outs.1.trans hp.outs.1,ha.outs.2.trans hp.outs.2⟩;rw [sz0];clear ha hp sz0 wp;obtain rfl:=hR0.out;clear hR0;have lowB:∀ b,b < w.heap.size→wa.heap[b]?=w.heap[b]?:=fun b hb=>lowA b (by omega);have hWb:=hW.keep lowB;have hTb:=hT.keep lowB;have hSb:=hS.keep lowB;have hI:=hW.1;refine zaf rm_xc fun R0 hR0=>?_;refine zbg ze1 (zab zah (by kernel_rfl)) rfl (zaa Try.func30) rfl fun wp hp=>?_;have HW:=yay (zsi (w:=wp) (hWb.keep fun b _=>by rw [hp.heap]) (by omega));have szp:wp.heap.size=N+1:=by rw [hp.heap];exact szA
 replace hp:=yay hp
 go_wp2_with (go_at_call 95;refine HW.out.mono ?_;rintro e w' ⟨wb,fb,bb,kb,vw,vf,vb,rfl,hm⟩;have HM:=yay hm;clear hm)
 refine fun w2 h2=>?_;obtain rfl:=hR0.out;clear hR0;obtain ⟨k,hk⟩:∃ k,min l.length 65536=k:=⟨_,rfl⟩;have HM2:=HM.out;rw [hk] at HM2;have NFa:=zux HM2 hk.symm hI;have k6:k≤65536:=by omega
 rw [szp] at NFa
 try rw [szp]
 unfold gpv;have e2:w2.heap=w'.heap:=h2.heap;have NF0:NewF (zhb ⟨k,wb,fb,bb⟩ (PlAt (N+1) ⟨k,wb,fb,bb⟩)) (stC l) wa w2 (zgx k (N+1) w'.heap.size wb fb bb kb):=by
  have h3:=NFa.more (famQ ⟨k,wb,fb,bb⟩ (PlAt.stab (N+1) ⟨k,wb,fb,bb⟩)) (w2:=w2) (by rw [e2];exact yax _) fun b _=>by rw [e2]
  exact ⟨h3.rep,fun b hb=>h3.old b (by rw [hp.out.heap];exact hb),h3.new,fun b hb=>(h3.low b (by rw [hp.out.heap];exact hb)).trans (by rw [hp.out.heap]),by have:=h3.size;rw [hp.out.heap] at this;exact this⟩
 have o2:w2.os=w.os∧w2.output=w.output:=⟨(h2.outs.1.trans (HM2.low.os.trans hp.out.outs.1)).trans outA.1,(h2.outs.2.trans (HM2.low.output.trans hp.out.outs.2)).trans outA.2⟩;obtain ⟨L,ownF,hLn,NF⟩:∃ (L:CL) (ownF:Nat→Owner),L.n=k∧NewF (zhb L (PlAt (N+1) L)) (stC l) wa w2 ownF:=⟨⟨k,wb,fb,bb⟩,_,rfl,NF0⟩;clear NF0 HM2 HM HW h2 e2 NFa hp szp hWb wp w' wb fb bb kb vw vf vb;refine zaf rm_xc fun R0 hR0=>?_;refine zc1 5 (by decide) (by decide) (zai (by kernel_rfl)) fun wp hp=>?_;simp only [yad,yae];replace hp:=yay hp
 go_wp2_with fail
 refine zan rfl fun w4 h4=>?_;have e4:w4.heap=w2.heap:=h4.heap.trans hp.out.heap;have o4:w4.os=w.os∧w4.output=w.output:=⟨(h4.outs.1.trans hp.out.outs.1).trans o2.1,(h4.outs.2.trans hp.out.outs.2).trans o2.2⟩;clear h4 hp wp;have NF4:=NF.more (famQ L (PlAt.stab (N+1) L)) (w2:=w4) (by rw [e4];exact yax _) fun b _=>by rw [e4]
 have sb:=NF4.size;clear NF;refine zal rm_xc rfl rfl (by decide) rfl Try.func78 (by kernel_rfl) (by kernel_rfl) ?_;walk_nrm;rw [show Value.pointer (some ⟨N+1,0,none⟩)=gpv (N+1) from rfl]
 refine zur (famQ L (PlAt.stab (N+1) L)) (fdo:=96) (recv:=gpv (N+1)) (doφ:=doC L.n (moF most)) Try.func96 (by kernel_rfl) (by kernel_rfl) (fun Z U i=>doC_ok (zrb (GRep.local (famQ L (PlAt.stab (N+1) L)))) rfl _ (fun hR=>GRep.size hR)) (fun i o κ hκ=>fp_doC o κ hκ) (fun o κ hκ=>fd_doC (yax _) o κ hκ) NF4 hTb hLL hSb hnS hmost fun Z own' w5 vo Yn Zlo R5 low5 sz5 outs5 fr5 row5=>?_;rw [hLn] at R5 row5 ⊢;have hgm:zj1 (doC k (moF most)) (stC l) LL sch most=zjp l LL sch most:=by unfold zjp;rw [hk]
 rw [hgm] at R5 row5 ⊢;have htr:trC l LL sch most=⟨(List.range (min LL.length 64)).map (zjp l LL sch most).m.an,(zjp l LL sch most).ord,zjb k (zjp l LL sch most).m.st,decide (0 < zbo (zjp l LL sch most).co (min LL.length 64))⟩:=by unfold trC;rw [hk]
 rw [htr] at h hsm;generalize zjp l LL sch most=gf at *;clear hgm htr;have o5:w5.os=w.os∧w5.output=w.output:=⟨outs5.1.trans o4.1,outs5.2.trans o4.2⟩;clear NF4 outs5 hTb hSb;rw [Frame.finish_at];obtain ⟨n,hn⟩:∃ n,min LL.length 64=n:=⟨_,rfl⟩;rw [hn] at Yn h ⊢;obtain ⟨vp,vc2,rfl⟩:∃ vp vc2,vo = .slice vp gf.ord.length vc2:=zc8 row5;rw [Yn];obtain ⟨K,hK⟩:∃ K,w5.heap.size=K:=⟨_,rfl⟩;refine zbm 6 2 (by decide) (by decide) (zai (by kernel_rfl)) fun wp hp=>?_;simp only [yaf,yag,yad,yae];unfold zvs;have szp:wp.heap.size=K:=by rw [hp.heap];exact hK
 replace hp:=yay hp;replace row5:=yay row5;replace hn:=yay hn;replace Yn:=yay Yn
 go_wp2_with fail
 refine zan rfl fun w6 h6=>?_;refine zad rm_xc ?_;obtain rfl:=hR0.out;clear hR0;have e6:w6.heap[K]?=some (.cells #[.slice (some ⟨Z.ar,0,none⟩) n n,.slice vp gf.ord.length vc2,.slice none 0 0,.bool (decide (0 < zbo gf.co n))] 31 (0,0)):=by
  rw [h6.heap,← szp];exact heap_alloc_new _ _
 have low6:∀ b,b < K→w6.heap[b]?=w5.heap[b]?:=fun b hb=>by rw [h6.heap,Below.heap_alloc _ _ _ (by omega),hp.out.heap]
 have sz6:w6.heap.size=K+1:=by rw [h6.heap];simp [szp]
 have o6:w6.os=w.os∧w6.output=w.output:=⟨(h6.outs.1.trans hp.out.outs.1).trans o5.1,(h6.outs.2.trans hp.out.outs.2).trans o5.2⟩;have eA6:w6.heap[N]?=some (.cells #[.slice none 0 0,.slice none 0 0,.slice none 0 0,.bool false] 31 (0,0)):=(low6 _ (by omega)).trans ((low5 _ (by omega)).trans eA);clear h6 hp szp wp;refine zaf rm_xc fun R0 hR0=>?_;refine zbg ze1 (zab zah (by kernel_rfl)) rfl (zaa Try.func30) rfl fun wp hp=>?_;have R6:zhb L (PlAt (N+1) L) gf.m.st own' wp:=by
  have lt5:∀ {b:Nat},own' b ≠ .out→b < K:=fun {b} hb=>by
   rcases Nat.lt_or_ge b K with z|z
   ·exact z
   ·exact absurd (fr5 b (by omega)) hb
  exact (famQ L (PlAt.stab (N+1) L)).keep R5.fam (fun b c t f hb _ _ _=>⟨hb,(congrArg (·[b]?) hp.heap).trans (low6 b (lt5 (by rw [hb];simp)))⟩) (fun b v _ hb=>⟨hb,(congrArg (·[b]?) hp.heap).trans (low6 b (lt5 (by rw [hb];simp)))⟩) fun b v hb => .inl hb
 have HST:=zn5 R6.1 R6.2;have szp:wp.heap.size=K+1:=by rw [hp.heap];exact sz6
 rw [szp,hLn] at HST;replace HST:=yay HST;have gK:wp.heap[K]?=_:=(congrArg (·[K]?) hp.heap).trans e6;obtain ⟨sn,hsn⟩:∃ sn,3 * k=sn:=⟨_,rfl⟩;rw [hsn] at HST;replace gK:=yay gK;replace hp:=yay hp;replace hsn:=yay hsn;clear R6;unfold gpv at HST
 go_wp2_with (go_at_call 97;refine HST.out.mono ?_;rintro e w' ⟨sv,rfl,hrow,hb⟩;obtain ⟨sp,sc,rfl⟩:=zc8 hrow;have hgk:=(hb.block K (by omega)).trans gK.out;have c2:=zae hgk 2;simp only [yac,yaa,yab] at c2;have z2:=zau hgk 2;replace hgk:=yay hgk;have row8:=yay hrow;have B8:=yay hb;clear hrow hb)
 refine fun w9 h9=>?_;obtain rfl:=hR0.out;clear hR0;have e8:=hgk.out;have s9:=zaz e8 2 (.slice sp sn sc);rw [← h9.heap] at s9;simp only [yan,yau,yav,yak,yam,yal] at s9;have k8:∀ b,b < K+1→w'.heap[b]?=w6.heap[b]?:=fun b hb=>(B8.out.block b hb).trans (congrArg (·[b]?) hp.out.heap);have k9:∀ b,b≠K→w9.heap[b]?=w'.heap[b]?:=fun b hb=>by rw [h9.heap,Below.heap_setCell _ _ _ _ hb]
 have z9:w9.heap.size=w'.heap.size:=by rw [h9.heap];simp [World.setCell]
 have sz8':K+1≤w'.heap.size:=by have:=B8.out.size;omega
 have o9:w9.os=w.os∧w9.output=w.output:=⟨(h9.outs.1.trans (B8.out.os.trans hp.out.outs.1)).trans o6.1,(h9.outs.2.trans (B8.out.output.trans hp.out.outs.2)).trans o6.2⟩;have eA8:=(k8 N (by omega)).trans eA6;generalize w'=w8 at *;clear h9 hp szp gK hgk HST e8 c2 z2 wp B8;refine zaf rm_xc fun R0 hR0=>?_;refine zbg prgN (zab zah (by kernel_rfl)) rfl (zaa Try.func30) rfl fun wq hq=>?_;have g6:wq.heap[K]?=_:=(congrArg (·[K]?) hq.heap).trans s9;have g0:wq.heap[N]?=some (.cells #[.slice none 0 0,.slice none 0 0,.slice none 0 0,.bool false] 31 (0,0)):=(congrArg (·[N]?) hq.heap).trans ((k9 _ (by omega)).trans eA8);have d0:=zae g6 0;have d1:=zae g6 1;have d2:=zae g6 2;have d3:=zae g6 3;have c0:=zae g0 0;have c1:=zae g0 1;have c3:=zae g0 3;have c22:=zae g0 2;have y0:=zau g0 0;have y1:=zau g0 1;have y2:=zau g0 2;have y3:=zau g0 3;simp only [yac,yaa,yab] at c0 c1 c22 c3 d0 d1 d2 d3;replace g0:=yay g0;replace g6:=yay g6;replace s9:=yay s9;replace hq:=yay hq
 go_wp2_with fail
 refine fun w10 h10=>?_;obtain ⟨s1,s2,s3⟩:=set4 (x := .slice (some ⟨Z.ar,0,none⟩) n n) (y := .slice vp gf.ord.length vc2) (z := .slice sp sn sc) (u := .bool (decide (0 < zbo gf.co n))) g0.out;have hh:=h10.heap;rw [← hh] at s1 s2 s3;have o10:w10.os=w.os∧w10.output=w.output:=⟨(h10.outs.1.trans hq.out.outs.1).trans o9.1,(h10.outs.2.trans hq.out.outs.2).trans o9.2⟩;have k10:∀ b,b≠N→w10.heap[b]?=w9.heap[b]?:=fun b hb=>(s2 b hb).trans (congrArg (·[b]?) hq.out.heap);have z10:w10.heap.size=w8.heap.size:=by rw [s3,hq.out.heap,z9]
 clear h10 hh s2 s3 c0 c1 c22 c3 y0 y1 y2 y3 d0 d1 d2 d3 g0 g6 hq wq;obtain rfl:=hR0.out;clear hR0;refine zb5 rm_xc ?_;refine zav rm_xc (zaa Try.func30) (zax _) (v := .agg #[.slice (some ⟨Z.ar,0,none⟩) n n,.slice vp gf.ord.length vc2,.slice sp sn sc,.bool (decide (0 < zbo gf.co n))]) (by
  rw [zbx];exact ⟨rfl,rfl,rfl,_,Try.func30,results_cell_row rfl _ _ N 31 _ (0,0) _ rfl s1 Try.underlying31 rfl zvv⟩) ?_
 have k58:∀ (b:Nat) (c:Array Value) (t:TypeId),w5.heap[b]?=some (Obj.cells c t (0,0))→t≠31→w10.heap[b]?=w5.heap[b]?:=fun b c t hb ht=>by
  have hlt:=(yah.1 hb).1;have n1:b≠N:=fun z=>by
   rw [← low6 b (by omega),z,eA6] at hb;simp at hb;exact ht hb.2.symm
  rw [k10 b n1,k9 b (by omega),k8 b (by omega),low6 b (by omega)]
 obtain ⟨ac,avs,ha⟩:=R5.ans;have ra:=zqx ha (w':=w10) fun b c t hb ht=>k58 b c t hb (by rcases ht with z|z|z<;>rw [z]<;>decide);rw [Yn.out] at ra;have ro:IntsAt w10 (.slice vp gf.ord.length vc2) gf.ord:=zdr (zaq row5.out fun g o hg hh=>by
  obtain ⟨cc,hcc⟩:=za4 row5.out hg;exact (k58 _ _ 3 hcc (by decide)).trans hh)
 have rs:IntsAt w10 (.slice sp sn sc) (zjb k gf.m.st):=zdr (n:=sn) (zaq row8.out fun g o hg hh=>by
  have h1:=(zc3 row8.out hg).1;exact (k10 g (by omega)).trans ((k9 g (by omega)).trans hh))
 have ro2:w10.ownsRow w4.heap.size 3 1 (.slice vp gf.ord.length vc2) gf.ord.length (zfc gf.ord):=zaq row5.out fun g o hg hh=>by
  obtain ⟨cc,hcc⟩:=za4 row5.out hg;exact (k58 _ _ 3 hcc (by decide)).trans hh
 have rs2:w10.ownsRow (K+1) 2 1 (.slice sp sn sc) sn (zfc (zjb k gf.m.st)):=zaq row8.out fun g o hg hh=>by
  have h1:=(zc3 row8.out hg).1;exact (k10 g (by omega)).trans ((k9 g (by omega)).trans hh)
 have tw:=trW_of (lo:=w.heap.size) ha (w':=w10) (vo := .slice vp gf.ord.length vc2) (vs := .slice sp sn sc) (fun b c t hb ht=>k58 b c t hb (by rcases ht with z|z|z<;>rw [z]<;>decide)) (by omega) (by have:=R5.lo;omega) (fun j hj=>hsm _ (List.mem_map.2 ⟨j,List.mem_range.2 (by have:=hn.out;have:=Yn.out;omega),rfl⟩)) ⟨_,_,zk7 ro2 (by omega)⟩ ⟨_,_,zk7 rs2 (by omega)⟩;rw [Yn.out] at tw;have lt10:∀ b o,w10.heap[b]?=some o→b < w10.heap.size:=fun b o hb=>(yah.1 hb).1;have tin:∀ w2:World,(∀ b,w.heap.size≤b→b < w10.heap.size→w2.heap[b]?=w10.heap[b]?)→TrIn w2 (.agg #[.slice (some ⟨Z.ar,0,none⟩) n n,.slice vp gf.ord.length vc2,.slice sp sn sc,.bool (decide (0 < zbo gf.co n))]) ⟨(List.range n).map gf.m.an,gf.ord,zjb k gf.m.st,decide (0 < zbo gf.co n)⟩:=fun w2 hw2=>by
  have r1:=zou ha (w':=w2) R5.lo fun b c t hlo hb ht=>by
   have e:=k58 b c t hb (by rcases ht with z|z|z<;>rw [z]<;>decide);exact (hw2 b (by omega) (lt10 b _ (e.trans hb))).trans e
  rw [Yn.out] at r1;refine ⟨.slice (some ⟨Z.ar,0,none⟩) n n,.slice vp gf.ord.length vc2,.slice sp sn sc,rfl,r1,zdr (zaq ro2 fun g o hg hh=>?_),zdr (n:=sn) (zaq rs2 fun g o hg hh=>?_)⟩
  ·exact (hw2 g (by have:=(zc3 ro2 hg).1;omega) (lt10 g _ hh)).trans hh
  ·exact (hw2 g (by have:=(zc3 rs2 hg).1;omega) (lt10 g _ hh)).trans hh
 refine h.out Z.ar n ac (.slice vp gf.ord.length vc2) (.slice sp sn sc) w10 tin tw (fun b hb=>?_) (by omega) o10;have hbN:b < N:=by omega
 rw [k10 b (by omega),k9 b (by omega),k8 b (by omega),low6 b (by omega),low5 b (by omega),lowB b (by omega)]
theorem zof (v:ByteArray) (w:World):Calls Try.prog 90 #[.string v] w fun e w'=>e = .returned (.pointer (some ⟨w.heap.size,0,none⟩))∧(w.alloc (.cells #[.pointer (some ⟨w.heap.size+1,0,none⟩)] 245)).alloc (.cells #[.string v,.int .i64 0] 248)=w':=by
 have s1:(w.alloc (.cells #[.pointer none] 245)).heap.size=w.heap.size+1:=by simp
 have hk:=heap_alloc_new (w.alloc (.cells #[.pointer none] 245)) (.cells #[.string v,.int .i64 0] 248);rw [s1] at hk;have hc:((w.alloc (.cells #[.pointer none] 245)).alloc (.cells #[.string v,.int .i64 0] 248)).heap[w.heap.size]?=some (.cells #[.pointer none] 245 (0,0)):=(Below.heap_alloc _ _ _ (by rw [s1];omega)).trans (heap_alloc_new w _);have h1:=SB.ptrStoreI w.heap.size 0 (p:=none) (q:=some ⟨w.heap.size+1,0,none⟩) (v:=v) ((w.alloc (.cells #[.pointer none] 245)).alloc (.cells #[.string v,.int .i64 0] 248)) (by rw [zae hc 0];rfl) (zau hc 0) (.inr ⟨_,rfl,hk⟩);rw [zkq] at h1;replace hk:=yay hk;replace hc:=yay hc;go_enter Try.func90,Try.ntmps90
 go_wp2_with (go_at_call 144;refine h1.mono ?_;rintro e w' ⟨rfl,rfl⟩)
 go_ret
 exact ⟨rfl,rfl⟩
theorem zk5 (b:Nat) {p:Option Addr} {v:ByteArray} (w:World) (hc:w.cell? ⟨b,0,none⟩=some (.pointer p)) (hk:SB.KeptI w p v):Calls Try.prog 94 #[.pointer (some ⟨b,0,none⟩)] w fun e w'=>e = .returned (.string v)∧w=w':=by
 have h0:=SB.ptrLoadI b 0 w hc hk;have h1:=SB.valueI_walk w hk;have hne:∀ w:World,(binOp .eql 169 (.pointer (some ⟨b,0,none⟩)) (.pointer none)).run Try.prog w = .ok (.bool false) w:=fun w=>by rfl
 clear hc hk;go_enter Try.func94,Try.ntmps94
 go_wp2_with (first|(go_at_call 145;refine h0.mono ?_;rintro e w' ⟨rfl,rfl⟩)|(go_at_call 146;refine h1.mono ?_;rintro e w' ⟨rfl,rfl⟩))
 go_ret
 exact ⟨rfl,rfl⟩
section
variable {Z:Machine→Trace→Prop} {c:Frame} {cs:List Frame} {b:Nat} {V:SB.BoxS} {own:Nat→Owner} {w:World}
theorem famStr:FamB (fun V=>SB.BAt 0 b V) (·=b):=⟨⟨fun {s own own' w w'} h hs ht hn=>by
  obtain ⟨p,c1,_⟩:=h.cell;exact h.keep (hs _ _ _ _ h.sh c1 (by decide) (by decide)) ht hn⟩,fun {s own w} h a (ha:a=b)=>by
  subst ha;obtain ⟨p,c1,_⟩:=h.cell;exact ⟨h.sh,(yah.1 c1).1⟩,fun h hk ht hn=>h.keep (hk b rfl) ht hn⟩
theorem zsa {Q:Nat→SM SB.BoxS→Prop} {o:Os×Array (Nat×ByteArray)}:Part (zmw (zqz (fun V=>SB.BAt 0 b V)) 0 Z Q o) (idL SB.BoxS) (SB.BAt 0 b) b TS2:=⟨fun h=>h,fun _ _ h=>h⟩
theorem SB.HeldC.kept2 {own:Nat→Owner} {i s:Nat} {v:ByteArray} {p:Option Addr} (h:SB.HeldC own w.heap i s v p):SB.KeptI w p v:=h.kept fun _ _=>rfl
theorem SB.HeldC.tags {own own':Nat→Owner} {w w':World} {i s:Nat} {v:ByteArray} {p:Option Addr} (h:SB.HeldC own w.heap i s v p) (ht:Tags own own' w w'):SB.HeldC own' w'.heap i s v p:=h.keep fun b v h0 hb=>ht b v h0 hb
open Classical in
theorem zmh (G0:FW (fun V=>SB.BAt 0 b V) (·=b) V own w) (h:∀ p own' w',FW (fun V=>SB.BAt 0 b V) (·=b) V own' w'→Left own own' w w'→Tags own own' w w'→SB.HeldC own' w'.heap 0 V.ser V.v p→RM Try.prog Z (G (c.finish (.agg #[.pointer p,gpv b])) cs) w') :
  RM Try.prog Z (G (Frame.enter Try.prog 91 #[gpv b,.nilIface] .normal) (c::cs)) w:=by
 refine rm_md (Q:=fun _ m=>m=⟨V,fun _=>[]⟩) (o:=(w.os,w.output)) (φ:=SB.xloadF (idL SB.BoxS) fun s v=>if s=V.ser∧v=V.v then zvf else zkm) (m:=⟨V,fun _=>[]⟩) (x:=0) (own:=zga own w.heap.size) (A:=fun _=>False) (w₀:=⟨w.heap,⟨V,fun _=>[]⟩,zga own w.heap.size⟩) (Rep:=zqz (fun V=>SB.BAt 0 b V)) ?_ ⟨rfl,rfl⟩ (zll (by decide) (by show FF _ (if V.ser=V.ser∧V.v=V.v then zvf else zkm) _ _;rw [if_pos ⟨rfl,rfl⟩];rfl));refine SB.xload_cps (md:=zmw (zqz (fun V=>SB.BAt 0 b V)) 0 Z (fun _ m=>m=⟨V,fun _=>[]⟩) (w.os,w.output)) (L:=idL SB.BoxS) (A:=fun _=>False) (w₀:=⟨w.heap,⟨V,fun _=>[]⟩,zga own w.heap.size⟩) (c:=c) (cs:=cs) (zpi famStr.ok) zsa (κ:=fun s v=>if s=V.ser∧v=V.v then zvf else zkm) trivial (fun s v p A₁ w₁ L1 hH=>?_) _ _ _ _ (G0.ctx famStr.ok);intro y own4 w4 m4 C4 hk hQ;by_cases hr:s=V.ser∧v=V.v
 ·rw [if_pos hr] at hQ;obtain ⟨rfl,rfl⟩:=hr;obtain ⟨G1,L1',T1⟩:=G0.after famStr C4 L1 (show m4=_ from hQ) hk
  refine h p _ _ G1 L1' T1 (hH.keep fun b' t h0 hb=>?_);obtain ⟨q3,q4⟩:=C4.tg b' t hb;refine ⟨?_,q4⟩;have hne:¬ b'=b:=fun z=>by
   have:=(famStr.sh (s:=m4.st) (own:=own4) (w:=w4) C4.rep b' z).1;rw [this] at q3;cases q3
  unfold zjh;rw [if_neg hne,if_pos ⟨t,h0,q3⟩];exact q3
 ·rw [if_neg hr] at hQ;exact hQ.elim
theorem zi8 {s:Nat} {l0 v:ByteArray} {p0:Option Addr} (h0:SB.HeldC own w.heap 0 s l0 p0) (G0:FW (fun V=>SB.BAt 0 b V) (·=b) V own w) (h:∀ own' w',FW (fun V=>SB.BAt 0 b V) (·=b) (if V.ser=s then V.lay v else V) own' w'→Left own own' w w'→Tags own own' w w'→RM Try.prog Z (G (c.finish (.bool (decide (V.ser=s)))) cs) w') :
  RM Try.prog Z (G (Frame.enter Try.prog 93 #[gpv b,.nilIface,.agg #[.pointer p0,gpv b],.string v] .normal) (c::cs)) w:=by
 refine zlb famStr (ρ:=Bool) (r0:=decide (V.ser=s)) (V:=fun e => .bool e) (Φ:=fun κ=>zb1 (SB.xcasP (idL SB.BoxS) s v κ)) (s':=if V.ser=s then V.lay v else V) G0 (fun {Q o w₀ κ} hw hκ=>SB.xcas_cps (md:=zmw (zqz (fun V=>SB.BAt 0 b V)) 0 Z Q o) (l0:=l0) (zpi famStr.ok) zsa (by decide) trivial (by rw [hw];exact h0.keep fun b' t ht hb=>⟨(if_neg fun q=>by rw [hb] at q;cases q.1).trans hb,rfl⟩) trivial fun r=>hκ r) (fun {Q κ} hr=>zll (by omega) ?_) h;show FF Q (SB.xcasP (idL SB.BoxS) s v κ) 1 ⟨V,fun _=>[]⟩;unfold FF SB.xcasP;by_cases e:V.ser=s
 ·rw [if_pos (show ((idL SB.BoxS).get (SM.mk V fun _=>[]).st).ser=s from e)]
  have:=hr 1 (by omega);rw [decide_eq_true e,if_pos e] at this;exact this
 ·rw [if_neg (show ¬ ((idL SB.BoxS).get (SM.mk V fun _=>[]).st).ser=s from e)]
  have:=hr 1 (by omega);rw [decide_eq_false e,if_neg e] at this;exact this
theorem zsf {v:ByteArray} {w':World} {N:Nat} (hN:w.heap.size=N) (h:w'.heap=((w.alloc (.cells #[.pointer (some ⟨w.heap.size+1,0,none⟩)] 245)).alloc (.cells #[.string v,.int .i64 0] 248)).heap) :
  FW (fun V=>SB.BAt 0 N V) (·=N) ⟨v,1,1⟩ (fun x=>if x=N then .sh else if x=N+1 then .tag (zhc 0 1+2) else .out) w'∧(∀ x,x < N→w'.heap[x]?=w.heap[x]?)∧w'.heap.size=N+2:=by
 subst hN;have s1:(w.alloc (.cells #[.pointer (some ⟨w.heap.size+1,0,none⟩)] 245)).heap.size=w.heap.size+1:=by simp
 have e1:w'.heap[w.heap.size]?=some (.cells #[.pointer (some ⟨w.heap.size+1,0,none⟩)] 245 (0,0)):=by
  rw [h,Below.heap_alloc _ _ _ (by rw [s1];omega)];exact heap_alloc_new _ _
 have e2:w'.heap[w.heap.size+1]?=some (.cells #[.string v,.int .i64 0] 248 (0,0)):=by
  have:=heap_alloc_new (w.alloc (.cells #[.pointer (some ⟨w.heap.size+1,0,none⟩)] 245)) (.cells #[.string v,.int .i64 0] 248);rw [s1] at this;rw [h];exact this
 have hs:w'.heap.size=w.heap.size+2:=by rw [h];simp
 have htag:∀ x t,(if x=w.heap.size then Owner.sh else if x=w.heap.size+1 then .tag (zhc 0 1+2) else .out) = .tag (t+2)→x=w.heap.size+1∧t=zhc 0 1:=fun x t q=>by
  split at q
  ·cases q
  ·split at q
   ·rename_i z;injection q with q;exact ⟨z,by omega⟩
   ·cases q
 refine ⟨⟨⟨if_pos rfl,⟨_,e1,trivial,.inr ⟨Nat.one_pos,w.heap.size+1,rfl,?_,e2⟩⟩,fun x y t q1 q2=>?_,fun x t q=>?_⟩,fun x hx=>?_,fun x hx=>?_⟩,fun x hx=>?_,hs⟩
 ·dsimp only;rw [if_neg (by omega),if_pos rfl]
 ·rw [(htag x t q1).1,(htag y t q2).1]
 ·rw [(htag x t q).2];show zhc 0 1 / 65536≤1;decide
 ·rw [if_neg (by omega),if_neg (by omega)]
 ·by_cases z:x=w.heap.size
  ·exact .inl z
  ·right;rw [if_neg z] at hx ⊢;by_cases y:x=w.heap.size+1
   ·rw [if_pos y];exact ⟨_,by omega,rfl⟩
   ·rw [if_neg y] at hx;exact absurd rfl hx
 ·rw [h,Below.heap_alloc _ _ _ (by rw [s1];omega),Below.heap_alloc _ _ _ hx]
theorem zqm {v:Int} (hv:zcm v) {w':World} {N:Nat} (hN:w.heap.size=N) (h:w'.heap=(w.alloc (.cells #[.int .i64 v] 102)).heap) :
  FW (fun v=>WAt N v) (·=N) v (fun x=>if x=N then .sh else .out) w'∧(∀ x,x < N→w'.heap[x]?=w.heap[x]?)∧w'.heap.size=N+1:=by
 subst hN;have e1:w'.heap[w.heap.size]?=some (.cells #[.int .i64 v] 102 (0,0)):=by rw [h];exact heap_alloc_new _ _
 have hs:w'.heap.size=w.heap.size+1:=by rw [h];simp
 refine ⟨⟨⟨if_pos rfl,e1,hv⟩,fun x hx=>if_neg (by omega),fun x hx=>?_⟩,fun x hx=>?_,hs⟩
 ·by_cases z:x=w.heap.size
  ·exact .inl z
  ·rw [if_neg z] at hx;exact absurd rfl hx
 ·rw [h,Below.heap_alloc _ _ _ hx]
end
def fxC:Tr:=trC [5] [[⟨3,0,1,0⟩,⟨1,0,0,0⟩],[⟨3,0,1,0⟩,⟨1,0,0,0⟩]] [0,1,1,0] 99
theorem fc_an:fxC.ans.map (·.map fun a=>(a.ok,a.n,a.l))=[[(true,6,[]),(true,7,[])],[(true,7,[]),(true,7,[])]]:=by decide +kernel
theorem fc_st:fxC.st=[7,0,5]∧fxC.stuck=false∧fxC.ord.length=4:=by decide +kernel
theorem zv5:fxC.ans=[[⟨true,6,[]⟩,⟨true,7,[]⟩],[⟨true,7,[]⟩,⟨true,7,[]⟩]]:=by
 have h:=fc_an;generalize fxC.ans=l at h
 match l,h with
 | [[⟨a1,a2,a3⟩,⟨b1,b2,b3⟩],[⟨c1,c2,c3⟩,⟨d1,d2,d3⟩]],h =>
  simp only [List.map_cons,List.map_nil,List.cons.injEq,Prod.mk.injEq,and_true] at h;obtain ⟨⟨⟨rfl,rfl,rfl⟩,rfl,rfl,rfl⟩,⟨rfl,rfl,rfl⟩,rfl,rfl,rfl⟩:=h;rfl
theorem fx_inC {w:World} {N K:Nat} (m0:w.heap[K]?=some (.cells #[.int .i64 5] 2 (0,0))) (m1:w.heap[N]?=some (.cells #[.int .i64 3,.int .i64 0,.int .i64 1,.int .i64 0,.int .i64 1,.int .i64 0,.int .i64 0,.int .i64 0] 45 (0,0)))
  (m3:w.heap[K+1]?=some (.cells #[.slice (some ⟨N,0,none⟩) 2 2,.slice (some ⟨N,0,none⟩) 2 2] 34 (0,0))) (m4:w.heap[K+1+1]?=some (.cells #[.int .i64 0,.int .i64 1,.int .i64 1,.int .i64 0] 3 (0,0))) :
  IntsIn w (.slice (some ⟨K,0,none⟩) 1 1) [5]∧ThrIn w (.slice (some ⟨K+1,0,none⟩) 2 2) [[⟨3,0,1,0⟩,⟨1,0,0,0⟩],[⟨3,0,1,0⟩,⟨1,0,0,0⟩]]∧IntsIn w (.slice (some ⟨K+1+1,0,none⟩) 4 4) [0,1,1,0]:=by
 have op:OpsIn w (some ⟨N,0,none⟩) 2 2 [⟨3,0,1,0⟩,⟨1,0,0,0⟩]:=by
  refine ⟨fun o h=>?_,rfl,yax _,fun _=>⟨N,0,rfl,fun j p hj=>?_⟩⟩
  ·rcases List.mem_cons.1 h with rfl|h
   ·constructor<;>constructor<;>decide
   ·obtain rfl:o=⟨1,0,0,0⟩:=by simpa using h
    constructor<;>constructor<;>decide
  ·rcases j with _|_|j
   ·simp at hj;subst hj;exact ⟨zae m1 0,zae m1 1,zae m1 2,zae m1 3⟩
   ·simp at hj;subst hj;exact ⟨zae m1 4,zae m1 5,zae m1 6,zae m1 7⟩
   ·simp at hj
 refine ⟨⟨fun x hx=>?_,_,1,rfl,yax _,fun _=>⟨K,0,rfl,fun j x hj=>?_⟩⟩,⟨_,2,rfl,fun _=>some ⟨N,0,none⟩,fun _=>2,fun _=>2,fun _=>⟨K+1,0,rfl,fun i L hi=>?_⟩,fun i L hi=>?_⟩,fun x hx=>?_,_,4,rfl,yax _,fun _=>⟨K+1+1,0,rfl,fun j x hj=>?_⟩⟩
 ·obtain rfl:x=5:=by simpa using hx
  constructor<;>decide
 ·rcases j with _|j
  ·simp at hj;subst hj;exact zae m0 0
  ·simp at hj
 ·rcases i with _|_|i
  ·exact zae m3 0
  ·exact zae m3 1
  ·simp at hi
 ·rcases i with _|_|i
  ·simp at hi;subst hi;exact op
  ·simp at hi;subst hi;exact op
  ·simp at hi
 ·have:x=0∨x=1:=by simp at hx;omega
  rcases this with rfl|rfl<;>constructor<;>decide
 ·rw [Nat.zero_add,zae m4];rcases j with _|_|_|_|j<;>first|(simp at hj;subst hj;rfl)|(simp at hj)
theorem alloc3 {w W:World} {b c d:Obj} {N:Nat} (hN:w.heap.size=N) (h:W.heap=(((w.alloc b).alloc c).alloc d).heap):W.heap[N]?=some b∧W.heap[N+1]?=some c∧W.heap[N+1+1]?=some d:=by
 subst hN;have s1:(w.alloc b).heap.size=w.heap.size+1:=by simp
 have s2:((w.alloc b).alloc c).heap.size=w.heap.size+1+1:=by simp
 rw [h];refine ⟨?_,?_,?_⟩
 ·rw [Below.heap_alloc _ _ _ (by omega),Below.heap_alloc _ _ _ (by omega)];exact heap_alloc_new _ _
 ·rw [Below.heap_alloc _ _ _ (by omega),← s1];exact heap_alloc_new _ _
 ·rw [← s2];exact heap_alloc_new _ _
theorem zuo:Prg false Try.prog (·∈[32,37,83,87,90,92,94,144,145,146]):=zgw zah (by kernel_rfl) (by kernel_rfl) (by kernel_rfl)
theorem zek {w w':World} (τ:Nat→Question→Nat) (d:Nat) (h:LeftW w w'):LeftW w (re τ d w'):=⟨h.same,h.size,h.outs⟩
theorem zmy {w w':World} {τ:Nat→Question→Nat} {d:Nat} (h:LeftW (re τ d w) w'):LeftW w w':=⟨h.same,h.size,h.outs⟩
theorem str_a (w:World):((binOp .eql 9 (.string ⟨#[97]⟩) (.string ⟨#[97]⟩)).bind fun v=>(pure (Next.value v):Sem Next)).runT Try.prog w #[]=(.ok (.value (.bool true)) w,#[]):=by kernel_rfl
theorem str_b (w:World):((binOp .eql 9 (.string ⟨#[98]⟩) (.string ⟨#[98]⟩)).bind fun v=>(pure (Next.value v):Sem Next)).runT Try.prog w #[]=(.ok (.value (.bool true)) w,#[]):=by kernel_rfl
section
variable {Z:Machine→Trace→Prop} {c:Frame} {cs:List Frame}
theorem zon {w:World} (h:∀ w',LeftW w w'→RM Try.prog Z (G (c.finish (.bool true)) cs) w'):RM Try.prog Z (G (Frame.enter Try.prog 29 #[] .normal) (c::cs)) w:=by
 rw [enter_at _ Try.func29 rfl];simp only [Try.ntmps29,yan,yau,yav,Nat.reduceAdd,Nat.reduceSub,yao,
   yap,yaq,yar,yas,yat]
 replace h:=yay h;have L:LeftW w w := .refl;refine zaf rm_xc fun R0 hR0=>?_;refine zbg zuo (zab zah (by kernel_rfl)) rfl (zaa Try.func29) rfl fun wp hp=>?_;replace hp:=yay hp
 go_wp2_with fail
 refine fun w1 h1=>?_;replace L:=L.trans ((LeftW.of_sim hp.out.heap hp.out.outs).sim h1);clear h1 hp wp;obtain rfl:=hR0.out;clear hR0;refine zaf rm_xc fun R0 hR0=>?_;refine zbg zuo (zab zah (by kernel_rfl)) rfl (zaa Try.func29) rfl fun wp hp=>?_;obtain ⟨N,hN⟩:∃ N,wp.heap.size=N:=⟨_,rfl⟩;replace hN:=yay hN;replace hp:=yay hp
 go_wp2_with fail
 rw [hN.out];refine fun w2 h2=>?_;replace L:=L.trans (((LeftW.of_sim hp.out.heap hp.out.outs).alloc _).sim h2);have m1:w2.heap[N]?=some (.cells #[.int .i64 3,.int .i64 0,.int .i64 1,.int .i64 0,.int .i64 1,.int .i64 0,.int .i64 0,.int .i64 0] 45 (0,0)):=by
  rw [h2.heap,← hN.out];exact heap_alloc_new _ _
 clear h2 hp hN wp;obtain rfl:=hR0.out;clear hR0;refine zaf rm_xc fun R0 hR0=>?_;refine zc1 5 (by decide) (by decide) (zai (by kernel_rfl)) fun wp hp=>?_;simp only [yad,yae];obtain ⟨K,hK⟩:∃ K,wp.heap.size=K:=⟨_,rfl⟩;replace hK:=yay hK;replace hp:=yay hp
 go_wp2_with fail
 refine zan rfl fun w3 h3=>?_;replace L:=L.trans (((((LeftW.of_sim hp.out.heap hp.out.outs).alloc _).alloc _).alloc _).sim h3);obtain ⟨q0,q3,q4⟩:=alloc3 hK.out h3.heap;have q1:w3.heap[N]?=w2.heap[N]?:=by
  have hlt:N < wp.heap.size:=by rw [hp.out.heap];exact (yah.1 m1).1
  rw [h3.heap,Below.heap_alloc _ _ _ (by simp;omega),Below.heap_alloc _ _ _ (by simp;omega),Below.heap_alloc _ _ _ hlt,hp.out.heap]
 replace q1:=q1.trans m1;have hKK:=hK.out
 try rw [hKK]
 clear h3 hp hKK hK wp m1;obtain ⟨hI,hT,hS⟩:=fx_inC q0 q1 q3 q4;clear q0 q1 q3 q4;refine zal rm_xc rfl rfl (by decide) rfl Try.func30 (by kernel_rfl) (by kernel_rfl) ?_;walk_nrm;refine zob (l:=[5]) (LL:=[[⟨3,0,1,0⟩,⟨1,0,0,0⟩],[⟨3,0,1,0⟩,⟨1,0,0,0⟩]]) (sch:=[0,1,1,0]) (most:=99) hI hT (by decide) (by decide) hS (by decide) (by decide) (fun X hX=>?hsm) fun ar n cc vo vs w4 hT4 _ k4 s4 o4=>?_
 case hsm =>
  change X∈fxC.ans at hX
  rw [zv5] at hX;have:X=[⟨true,6,[]⟩,⟨true,7,[]⟩]∨X=[⟨true,7,[]⟩,⟨true,7,[]⟩]:=by simpa using hX
  rcases this with rfl|rfl
  ·exact ⟨by decide,fun r hr=>by
    have:r=⟨true,6,[]⟩∨r=⟨true,7,[]⟩:=by simpa using hr
    rcases this with rfl|rfl<;>decide⟩
  ·exact ⟨by decide,fun r hr=>by
    obtain rfl:r=⟨true,7,[]⟩:=by simpa using hr
    decide⟩
 replace L:=L.trans ⟨k4,s4,o4⟩;replace hT4:=hT4 w4 fun _ _ _=>rfl
 change TrIn w4 _ fxC at hT4
 have hst:(trC [5] [[⟨3,0,1,0⟩,⟨1,0,0,0⟩],[⟨3,0,1,0⟩,⟨1,0,0,0⟩]] [0,1,1,0] 99).stuck=false:=fc_st.2.1;rw [hst];obtain ⟨va,vo',vs',e0,⟨aa,ac,e1,hA⟩,⟨oa,oc,e2,_⟩,⟨sa,sc,e3,hS4⟩⟩:=hT4;obtain ⟨rfl,rfl,rfl⟩:va = .slice (some ⟨ar,0,none⟩) n n∧vo'=vo∧vs'=vs:=by
  simp only [Value.agg.injEq,List.toArray,Array.mk.injEq,List.cons.injEq] at e0;exact ⟨e0.1.symm,e0.2.1.symm,e0.2.2.1.symm⟩
 clear e0;rw [fc_st.2.2] at e2;obtain rfl:=e2;rw [zv5] at hA e1;rw [fc_st.1] at hS4 e3;obtain ⟨ab,ao,rfl,hA1⟩:=hA (by simp);obtain ⟨sb,so,rfl,hc⟩:=hS4 (by simp);obtain ⟨u0,r0,⟨g0,gc0,rfl,hr0⟩⟩:=hA1 0 _ rfl;obtain ⟨u1,r1,⟨g1,gc1,rfl,hr1⟩⟩:=hA1 1 _ rfl;obtain ⟨x0,y0,rfl,hq0⟩:=hr0 (by simp);obtain ⟨x1,y1,rfl,hq1⟩:=hr1 (by simp);have a0:=(hq0 0 _ rfl).2.1;have a1:=(hq0 1 _ rfl).2.1;have a2:=(hq1 0 _ rfl).2.1;have c0:=hc 0 _ rfl;simp only [yau,yav,Nat.reduceAdd,Nat.zero_mul,Nat.one_mul,Nat.add_zero] at a0 a1 a2 c0 e1 e3 r0 r1;obtain ⟨rfl,rfl,rfl⟩:ab=ar∧ao=0∧n=2:=by
  simp only [Value.slice.injEq,Option.some.injEq,Addr.mk.injEq] at e1;exact ⟨e1.1.1.symm,e1.1.2.1.symm,e1.2.1⟩
 obtain rfl:=e3;clear hA hS4 hA1 hq0 hq1 hr0 hr1 hc hI hT hS e1 hst k4 s4 o4;rw [Frame.finish_at];walk_nrm;refine zbm 6 2 (by decide) (by decide) (zai (by kernel_rfl)) fun wp hp=>?_;simp only [yaf,yag,yad,yae];obtain ⟨M,hM⟩:∃ M,wp.heap.size=M:=⟨_,rfl⟩;replace hM:=yay hM;replace hp:=yay hp
 go_wp2_with fail
 refine zan rfl fun w5 h5=>?_;replace L:=L.trans (((LeftW.of_sim hp.out.heap hp.out.outs).alloc _).sim h5);have e5:w5.heap[M]?=some (.cells #[.slice (some ⟨ab,0,none⟩) 2 2,.slice oa 4 oc,.slice (some ⟨sb,so,none⟩) 3 sc,.bool false] 31 (0,0)):=by rw [h5.heap,← hM.out];exact heap_alloc_new _ _
 have k5:∀ (a:Addr) v,w4.cell? a=some v→w5.cell? a=some v:=fun a v q=>(World.cell?_of_block (w:=w4) (by
  have hb:=World.block_lt_of_cell? w4 _ q;rw [h5.heap,Below.heap_alloc _ _ _ (by rw [hp.out.heap];exact hb),hp.out.heap])).trans q
 replace a0:=k5 _ _ a0;replace a1:=k5 _ _ a1;replace a2:=k5 _ _ a2;replace c0:=k5 _ _ c0;replace r0:=k5 _ _ r0;replace r1:=k5 _ _ r1;have hMM:=hM.out
 try rw [hMM]
 clear h5 hp hMM hM k5 wp;refine zad rm_xc ?_;obtain rfl:=hR0.out;clear hR0;refine zaf rm_xc fun R0 hR0=>?_;refine zaf rm_xc fun R1 hR1=>?_;refine zbg zuo (zab zah (by kernel_rfl)) rfl (zaa Try.func29) rfl fun wp hp=>?_;have g5:wp.heap[M]?=_:=(congrArg (·[M]?) hp.heap).trans e5;have d0:=zae g5 0;have d2:=zae g5 2;have d3:=zae g5 3;have cc:∀ (a:Addr) v,w5.cell? a=some v→wp.cell? a=some v:=fun a v q=>(World.cell?_of_block (w:=w5) (by rw [hp.heap])).trans q;replace a0:=cc _ _ a0;replace a1:=cc _ _ a1;replace a2:=cc _ _ a2;replace c0:=cc _ _ c0;replace r0:=cc _ _ r0;replace r1:=cc _ _ r1;simp only [yac,yaa,yab] at d0 d2 d3;replace g5:=yay g5;clear cc;replace hp:=yay hp
 go_wp2_with fail
 refine fun w6 h6=>?_;replace L:=L.trans ((LeftW.of_sim hp.out.heap hp.out.outs).sim h6);clear a0 a1 a2 c0 r0 r1 d0 d2 d3 g5 h6 hp wp e5;obtain rfl:=hR1.out;clear hR1;refine zao rm_xc (t:=false) rfl ?_;refine za7 rm_xc ?_;obtain rfl:=hR0.out;clear hR0;refine zaf rm_xc fun R0 hR0=>?_;refine zbg zuo (zab zah (by kernel_rfl)) rfl (zaa Try.func29) rfl fun wp hp=>?_;obtain ⟨N,hN⟩:∃ N,wp.heap.size=N:=⟨_,rfl⟩;replace hN:=yay hN;replace hp:=yay hp
 go_wp2_with (go_at_call 32;refine (zh6 _ _).mono ?_;rintro e w' ⟨rfl,rfl⟩)
 refine fun w7 h7=>?_;obtain ⟨G0,k7,s7⟩:=zqm (w':=w7) (v:=5) (by constructor<;>decide) hN.out h7.heap;have hNw:w.heap.size≤N:=by rw [← hN.out,hp.out.heap];exact L.size
 have I:FL (fun v=>WAt N v) (·=N) w 5 (fun x=>if x=N then .sh else .out) w7:=⟨G0,L.trans ⟨fun x hx=>by rw [k7 x (by rw [← hN.out,hp.out.heap];exact hx),hp.out.heap],by rw [s7,← hN.out,hp.out.heap];omega,h7.outs.1.trans hp.out.outs.1,h7.outs.2.trans hp.out.outs.2⟩,fun x hx=>if_neg (by omega)⟩;have hNN:=hN.out
 try rw [hNN]
 clear h7 hp hN hNN G0 k7 s7 L wp;generalize (fun x=>if x=N then Owner.sh else .out)=own0 at I;obtain rfl:=hR0.out;clear hR0;refine zaf rm_xc fun R0 hR0=>?_;refine zaf rm_xc fun R1 hR1=>?_;refine zc1 4 (by decide) (by decide) (zai (by kernel_rfl)) fun wp hp=>?_;simp only [yad,yae];replace hp:=yay hp
 go_wp2_with fail
 refine zan rfl fun w8 h8=>?_;replace I:=I.sim famWord (h8.heap.trans hp.out.heap) ⟨h8.outs.1.trans hp.out.outs.1,h8.outs.2.trans hp.out.outs.2⟩;clear h8 hp wp;refine zal rm_xc rfl rfl (by decide) rfl Try.func47 (by kernel_rfl) (by kernel_rfl) ?_;walk_nrm;rw [show Value.pointer (some ⟨N,0,none⟩)=gpv N from rfl]
 refine zl3 I.g fun own9 w9 Ga La=>?_;replace I:FL (fun v=>WAt N v) (·=N) w 7 own9 w9:=I.step Ga La;clear Ga La;rw [show zdf 5 2=7 by decide];rw [Frame.finish_at];walk_nrm
 try unfold gpv
 refine zbm 5 4 (by decide) (by decide) (zai (by kernel_rfl)) fun wp hp=>?_;simp only [yaf,yag,yad,yae];replace hp:=yay hp
 go_wp2_with fail
 refine zan rfl fun w10 h10=>?_;replace I:=I.sim famWord (h10.heap.trans hp.out.heap) ⟨h10.outs.1.trans hp.out.outs.1,h10.outs.2.trans hp.out.outs.2⟩;clear h10 hp wp;refine zal rm_xc rfl rfl (by decide) rfl Try.func49 (by kernel_rfl) (by kernel_rfl) ?_;walk_nrm;rw [show Value.pointer (some ⟨N,0,none⟩)=gpv N from rfl]
 refine zh4 (by constructor<;>decide) I.g fun own11 w11 Ga La=>?_;replace I:FL (fun v=>WAt N v) (·=N) w 9 own11 w11:=I.step Ga La;clear Ga La;rw [show decide ((7:Int)=7)=true by decide];rw [Frame.finish_at];walk_nrm
 try unfold gpv
 refine zbm 10 4 (by decide) (by decide) (zai (by kernel_rfl)) fun wp hp=>?_;simp only [yaf,yag,yad,yae];replace hp:=yay hp
 go_wp2_with fail
 refine zan rfl fun w12 h12=>?_;replace I:=I.sim famWord (h12.heap.trans hp.out.heap) ⟨h12.outs.1.trans hp.out.outs.1,h12.outs.2.trans hp.out.outs.2⟩;clear h12 hp wp;refine zal rm_xc rfl rfl (by decide) rfl Try.func49 (by kernel_rfl) (by kernel_rfl) ?_;walk_nrm;rw [show Value.pointer (some ⟨N,0,none⟩)=gpv N from rfl]
 refine zh4 (by constructor<;>decide) I.g fun own13 w13 Ga La=>?_;replace I:FL (fun v=>WAt N v) (·=N) w 9 own13 w13:=I.step Ga La;clear Ga La;rw [show decide ((9:Int)=7)=false by decide];rw [Frame.finish_at];walk_nrm
 try unfold gpv
 refine zbm 15 3 (by decide) (by decide) (zai (by kernel_rfl)) fun wp hp=>?_;simp only [yaf,yag,yad,yae];replace hp:=yay hp
 go_wp2_with fail
 refine zan rfl fun w14 h14=>?_;replace I:=I.sim famWord (h14.heap.trans hp.out.heap) ⟨h14.outs.1.trans hp.out.outs.1,h14.outs.2.trans hp.out.outs.2⟩;clear h14 hp wp;refine zal rm_xc rfl rfl (by decide) rfl Try.func37 (by kernel_rfl) (by kernel_rfl) ?_;walk_nrm;refine zch zuo (f:=37) (by simp) (R:=fun v w'=>v = .int .i64 9∧LeftW w14 w') (fun v w' τ d hx=>⟨hx.1,zek τ d hx.2⟩) (fun τ d=>(zfu N 9 (re τ d w14) ((zae (w:=re τ d w14) I.g.rep.at_ 0).trans rfl)).mono fun e w' ⟨e1,e2⟩=>⟨_,e1,rfl,by rw [← e2];exact zek τ d .refl⟩) fun v w15 hv=>?_;obtain ⟨rfl,hl⟩:=hv;have L:=I.l.trans hl;clear I hl;rw [Frame.finish_at];walk_nrm
 try unfold gpv
 refine zbm 19 2 (by decide) (by decide) (zai (by kernel_rfl)) fun wp hp=>?_;simp only [yaf,yag,yad,yae];replace hp:=yay hp
 go_wp2_with fail
 refine zan rfl fun w16 h16=>?_;replace L:=L.trans ((LeftW.of_sim hp.out.heap hp.out.outs).sim h16);clear h16 hp wp;refine zad rm_xc ?_;obtain rfl:=hR1.out;clear hR1;refine zao rm_xc (t:=false) rfl ?_;refine za7 rm_xc ?_;obtain rfl:=hR0.out;clear hR0;refine zaf rm_xc fun R0 hR0=>?_;refine zbg zuo (zab zah (by kernel_rfl)) rfl (zaa Try.func29) rfl fun wp hp=>?_;obtain ⟨B,hB⟩:∃ B,wp.heap.size=B:=⟨_,rfl⟩;replace hB:=yay hB;replace hp:=yay hp
 go_wp2_with (go_at_call 90;refine (zof _ _).mono ?_;rintro e w' ⟨rfl,rfl⟩)
 refine fun w17 h17=>?_;obtain ⟨G0,k7,s7⟩:=zsf (w':=w17) (v:=⟨#[97]⟩) hB.out h17.heap;have hNw:w.heap.size≤B:=by rw [← hB.out,hp.out.heap];exact L.size
 have I:FL (fun V=>SB.BAt 0 B V) (·=B) w ⟨⟨#[97]⟩,1,1⟩ (fun x=>if x=B then .sh else if x=B+1 then .tag (zhc 0 1+2) else .out) w17:=⟨G0,L.trans ⟨fun x hx=>by rw [k7 x (by rw [← hB.out,hp.out.heap];exact hx),hp.out.heap],by rw [s7,← hB.out,hp.out.heap];omega,h17.outs.1.trans hp.out.outs.1,h17.outs.2.trans hp.out.outs.2⟩,fun x hx=>by
  rw [if_neg (by omega),if_neg (by omega)]⟩
 have hNN:=hB.out
 try rw [hNN]
 clear h17 hp hB hNN G0 k7 s7 L wp;generalize (fun x=>if x=B then Owner.sh else if x=B+1 then .tag (zhc 0 1+2) else .out)=own1 at I;obtain rfl:=hR0.out;clear hR0;refine zaf rm_xc fun R0 hR0=>?_;refine zaf rm_xc fun R1 hR1=>?_;refine zbg zuo (zab zah (by kernel_rfl)) rfl (zaa Try.func29) rfl fun wp hp=>?_;replace hp:=yay hp
 go_wp2_with fail
 refine fun w18 h18=>?_;replace I:=I.sim famStr (h18.heap.trans hp.out.heap) ⟨h18.outs.1.trans hp.out.outs.1,h18.outs.2.trans hp.out.outs.2⟩;clear h18 hp wp;obtain rfl:=hR1.out;clear hR1;refine zao rm_xc (t:=false) rfl ?_;refine za7 rm_xc ?_;obtain rfl:=hR0.out;clear hR0;refine zaf rm_xc fun R0 hR0=>?_;refine zc1 1 (by decide) (by decide) (zai (by kernel_rfl)) fun wp hp=>?_;simp only [yad,yae];replace hp:=yay hp
 go_wp2_with fail
 refine zan rfl fun w19 h19=>?_;replace I:=I.sim famStr (h19.heap.trans hp.out.heap) ⟨h19.outs.1.trans hp.out.outs.1,h19.outs.2.trans hp.out.outs.2⟩;clear h19 hp wp;refine zal rm_xc rfl rfl (by decide) rfl Try.func91 (by kernel_rfl) (by kernel_rfl) ?_;walk_nrm;rw [show Value.pointer (some ⟨B,0,none⟩)=gpv B from rfl]
 refine zmh I.g fun p own20 w20 Ga La Ta hH=>?_;replace I:FL (fun V=>SB.BAt 0 B V) (·=B) w ⟨⟨#[97]⟩,1,1⟩ own20 w20:=I.step Ga La;clear Ga La Ta;rw [Frame.finish_at];walk_nrm
 try unfold gpv
 refine zbm 2 2 (by decide) (by decide) (zai (by kernel_rfl)) fun wp hp=>?_;simp only [yaf,yag,yad,yae];obtain ⟨H,hHH⟩:∃ H,wp.heap.size=H:=⟨_,rfl⟩;replace hHH:=yay hHH;replace hp:=yay hp
 go_wp2_with fail
 refine zan rfl fun w21 h21=>?_;have eH:w21.heap[H]?=some (.cells #[.pointer p,.pointer (some ⟨B,0,none⟩)] 173 (0,0)):=by rw [h21.heap,← hHH.out];exact heap_alloc_new _ _
 have oH:own20 H = .out:=I.g.new H (by rw [← hHH.out,hp.out.heap];exact yax _);have k21:∀ x,x < w20.heap.size→w21.heap[x]?=w20.heap[x]?:=fun x hx=>by rw [h21.heap,Below.heap_alloc _ _ _ (by rw [hp.out.heap];exact hx),hp.out.heap]
 have T21:Tags own20 own20 w20 w21:=fun x t _ hx=>⟨hx,k21 x (by
  rcases Nat.lt_or_ge x w20.heap.size with z|z
  ·exact z
  ·rw [I.g.new x z] at hx;cases hx)⟩
 replace hH:=hH.tags T21;replace I:=I.beside famStr (w2:=w21) (by rw [h21.heap];simp;rw [hp.out.heap];omega) k21 ⟨h21.outs.1.trans hp.out.outs.1,h21.outs.2.trans hp.out.outs.2⟩;have hNN:=hHH.out
 try rw [hNN]
 clear h21 hp hHH hNN k21 T21 wp;refine zad rm_xc ?_;obtain rfl:=hR0.out;clear hR0;refine zaf rm_xc fun R0 hR0=>?_;refine zc1 1 (by decide) (by decide) (zai (by kernel_rfl)) fun wp hp=>?_;simp only [yad,yae];have gH:wp.heap[H]?=_:=(congrArg (·[H]?) hp.heap).trans eH;have g0:=zae gH 0;have g1:=zae gH 1;simp only [yac,yaa,yab] at g0 g1;replace gH:=yay gH;replace hp:=yay hp
 go_wp2_with fail
 refine zan rfl fun w22 h22=>?_;have e22:w22.heap=w21.heap:=h22.heap.trans hp.out.heap;replace I:=I.sim famStr e22 ⟨h22.outs.1.trans hp.out.outs.1,h22.outs.2.trans hp.out.outs.2⟩;replace hH:SB.HeldC own20 w22.heap 0 1 ⟨#[97]⟩ p:=by rw [e22];exact hH
 replace eH:=(congrArg (·[H]?) e22).trans eH;clear h22 hp gH g0 g1 e22 wp;refine zal rm_xc rfl rfl (by decide) rfl Try.func92 (by kernel_rfl) (by kernel_rfl) ?_;walk_nrm;refine zch zuo (f:=92) (by simp) (R:=fun v w'=>v = .string ⟨#[97]⟩∧LeftW w22 w') (fun v w' τ d hx=>⟨hx.1,zek τ d hx.2⟩) (fun τ d=>(SB.heldI_walk (re τ d w22) (show SB.KeptI (re τ d w22) p ⟨#[97]⟩ from hH.kept2) ⟨_,rfl⟩).mono fun e w' ⟨e1,e2⟩=>⟨_,e1,rfl,by rw [← e2];exact zmy ((LeftW.refl (w:=re τ d w22)).alloc _)⟩) fun v w23 hv=>?_
 obtain ⟨rfl,hl⟩:=hv;have lt22:∀ x,own20 x ≠ .out→x < w22.heap.size:=fun x hx=>by
  rcases Nat.lt_or_ge x w22.heap.size with z|z
  ·exact z
  ·exact absurd (I.g.new x z) hx
 replace hH:=hH.tags (w:=w22) (w':=w23) (own':=own20) fun x t _ hx=>⟨hx,hl.same x (lt22 x (by rw [hx];simp))⟩;replace eH:=(hl.same H (yah.1 eH).1).trans eH;replace I:=I.beside famStr hl.size hl.same hl.outs;clear hl lt22;rw [Frame.finish_at];walk_nrm
 try unfold gpv
 refine zfr rm_xc (i:=2) (rest:=List.range' 3 17) (v := .bool true) rfl rfl (by decide) (fun w=>?_) ?_
 ·exact str_a w
 simp only [Act.put,yak,yal,yam];refine zbm 3 3 (by decide) (by decide) (zai (by kernel_rfl)) fun wp hp=>?_;simp only [yaf,yag,yad,yae];have gH:wp.heap[H]?=_:=(congrArg (·[H]?) hp.heap).trans eH;have g0:=zae gH 0;have g1:=zae gH 1;simp only [yac,yaa,yab] at g0 g1;replace gH:=yay gH;replace hp:=yay hp
 go_wp2_with fail
 refine zan rfl fun w24 h24=>?_;have ek:w24.heap=w23.heap:=h24.heap.trans hp.out.heap;replace I:=I.sim famStr ek ⟨h24.outs.1.trans hp.out.outs.1,h24.outs.2.trans hp.out.outs.2⟩;replace hH:=show SB.HeldC _ w24.heap 0 1 ⟨#[97]⟩ p by rw [ek];exact hH
 replace eH:=(congrArg (·[H]?) ek).trans eH;clear h24 hp gH g0 g1 ek wp;refine zal rm_xc rfl rfl (by decide) rfl Try.func93 (by kernel_rfl) (by kernel_rfl) ?_;walk_nrm;rw [show Value.pointer (some ⟨B,0,none⟩)=gpv B from rfl]
 refine zi8 hH I.g fun own25 w25 Ga La Ta=>?_;replace I:FL (fun V=>SB.BAt 0 B V) (·=B) w ⟨⟨#[98]⟩,2,2⟩ own25 w25:=I.step Ga La;replace hH:=hH.tags Ta;have hs:=La.same H (yah.1 eH).1 oH;replace eH:=hs.2.trans eH;replace oH:=hs.1;clear Ga La Ta hs;rw [show decide (1=1)=true by decide];rw [Frame.finish_at];walk_nrm
 try unfold gpv
 refine zbm 7 4 (by decide) (by decide) (zai (by kernel_rfl)) fun wp hp=>?_;simp only [yaf,yag,yad,yae];have gH:wp.heap[H]?=_:=(congrArg (·[H]?) hp.heap).trans eH;have g0:=zae gH 0;have g1:=zae gH 1;simp only [yac,yaa,yab] at g0 g1;replace gH:=yay gH;replace hp:=yay hp
 go_wp2_with fail
 refine zan rfl fun w26 h26=>?_;have ek:w26.heap=w25.heap:=h26.heap.trans hp.out.heap;replace I:=I.sim famStr ek ⟨h26.outs.1.trans hp.out.outs.1,h26.outs.2.trans hp.out.outs.2⟩;replace hH:=show SB.HeldC _ w26.heap 0 1 ⟨#[97]⟩ p by rw [ek];exact hH
 replace eH:=(congrArg (·[H]?) ek).trans eH;clear h26 hp gH g0 g1 ek wp;refine zal rm_xc rfl rfl (by decide) rfl Try.func93 (by kernel_rfl) (by kernel_rfl) ?_;walk_nrm;rw [show Value.pointer (some ⟨B,0,none⟩)=gpv B from rfl]
 refine zi8 hH I.g fun own27 w27 Ga La Ta=>?_;replace I:FL (fun V=>SB.BAt 0 B V) (·=B) w ⟨⟨#[98]⟩,2,2⟩ own27 w27:=I.step Ga La;replace hH:=hH.tags Ta;have hs:=La.same H (yah.1 eH).1 oH;replace eH:=hs.2.trans eH;replace oH:=hs.1;clear Ga La Ta hs;rw [show decide (2=1)=false by decide];rw [Frame.finish_at];walk_nrm
 try unfold gpv
 refine zbm 12 4 (by decide) (by decide) (zai (by kernel_rfl)) fun wp hp=>?_;simp only [yaf,yag,yad,yae];have gH:wp.heap[H]?=_:=(congrArg (·[H]?) hp.heap).trans eH;have g0:=zae gH 0;have g1:=zae gH 1;simp only [yac,yaa,yab] at g0 g1;replace gH:=yay gH;replace hp:=yay hp
 go_wp2_with fail
 refine zan rfl fun w28 h28=>?_;have ek:w28.heap=w27.heap:=h28.heap.trans hp.out.heap;replace I:=I.sim famStr ek ⟨h28.outs.1.trans hp.out.outs.1,h28.outs.2.trans hp.out.outs.2⟩;replace hH:=show SB.HeldC _ w28.heap 0 1 ⟨#[97]⟩ p by rw [ek];exact hH
 replace eH:=(congrArg (·[H]?) ek).trans eH;clear h28 hp gH g0 g1 ek wp;refine zal rm_xc rfl rfl (by decide) rfl Try.func94 (by kernel_rfl) (by kernel_rfl) ?_;walk_nrm;obtain ⟨p2,c1,hH2⟩:=I.g.rep.cell;refine zch zuo (f:=94) (by simp) (R:=fun v w'=>v = .string ⟨#[98]⟩∧LeftW w28 w') (fun v w' τ d hx=>⟨hx.1,zek τ d hx.2⟩) (fun τ d=>(zk5 B (re τ d w28) ((zae (w:=re τ d w28) c1 0).trans rfl) (show SB.KeptI (re τ d w28) p2 ⟨#[98]⟩ from hH2.kept2)).mono fun e w' ⟨e1,e2⟩=>⟨_,e1,rfl,by rw [← e2];exact zek τ d .refl⟩) fun v w29 hv=>?_
 obtain ⟨rfl,hl⟩:=hv;have L:=I.l.trans hl;clear I hl;rw [Frame.finish_at];walk_nrm
 try unfold gpv
 refine zfr rm_xc (i:=17) (rest:=List.range' 18 2) (v := .bool true) rfl rfl (by decide) (fun w=>?_) ?_
 ·exact str_b w
 simp only [Act.put,yak,yal,yam];refine zbm 18 2 (by decide) (by decide) (zai (by kernel_rfl)) fun wp hp=>?_;simp only [yaf,yag,yad,yae];replace hp:=yay hp
 go_wp2_with fail
 refine zan rfl fun w30 h30=>?_;replace L:=L.trans ((LeftW.of_sim hp.out.heap hp.out.outs).sim h30);clear h30 hp wp;refine zad rm_xc ?_;obtain rfl:=hR0.out;clear hR0;refine zb5 rm_xc ?_;refine zav rm_xc (zaa Try.func29) (zax _) (by rw [zbx];exact ⟨rfl,rfl,rfl,_,Try.func29,results_tmp rfl _ _ _⟩) ?_;exact h.out _ L
end
end Go.Proofs.Ytofacoojpgkbiaa
