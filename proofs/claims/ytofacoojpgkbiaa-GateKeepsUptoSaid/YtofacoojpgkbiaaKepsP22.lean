/-
  A part of a proof. No condition of its own.
-/
import Derived.Test.YtofacoojpgkbiaaKepsP21
set_option linter.unusedVariables false
set_option maxHeartbeats 8000000
set_option linter.unusedSimpArgs false
namespace Go.Proofs.Ytofacoojpgkbiaa
open Go.Conc Go.RowKit
open Go.ConcN (upd upd_ne upd_same)
set_option maxRecDepth 100000
structure RowB (lo hi:Nat) (w:World) (e:TypeId) (sz:Nat) (v:Value) (n:Nat) (xs:List Value):Prop where
 row:w.ownsRow lo e sz v n xs
 lt:∀ g,v.ownBlock=some g→g < hi
def RowAns (lo hi:Nat) (w:World) (v:Value):Prop :=
 ∃ m xs,RowB lo hi w 42 3 v m xs∧m≤1000000000∧∀ k,k < m→∃ u n ys,xs[k * 3+2]?=some u∧n≤1000000000∧RowB lo hi w 2 1 u n ys
structure TrW (lo hi:Nat) (w:World) (ar n:Nat) (c:Array Value) (vo vs:Value):Prop where
 ge:lo≤ar
 lt:ar < hi
 at_:w.heap[ar]?=some (.cells c 40 (0,0))
 size:c.size=n
 rows:∀ j,j < n→RowAns lo hi w (c.getD j undef)
 dis:∀ j k g,j < n→k < n→(c.getD j undef).ownBlock=some g→(c.getD k undef).ownBlock=some g→j=k
 ord:∃ m xs,RowB lo hi w 3 1 vo m xs
 st:∃ m xs,RowB lo hi w 2 1 vs m xs
theorem zmw {lo lo':Nat} {w:World} {e:TypeId} {sz:Nat} {v:Value} {n:Nat} {xs:List Value} (h:w.ownsRow lo' e sz v n xs) (hl:lo≤lo'):RowB lo w.heap.size w e sz v n xs :=
 ⟨⟨h.1,h.2.imp id fun ⟨g,cap,cur,e1,q1,q2⟩=>⟨g,cap,cur,e1,Nat.le_trans hl q1,q2⟩⟩,fun g hg=>(zax h hg).2⟩
theorem trW_of {Z:AL} {an:Nat→List Ans} {c:Array Value} {us:Nat→List Value} {own:Nat→Owner} {w w':World} {lo:Nat} {vo vs:Value} (h:AnsRep Z an c us own w) (hk:∀ (b:Nat) (c:Array Value) (t:TypeId),w.heap[b]?=some (Obj.cells c t (0,0))→t=40∨t=42∨t=2→w'.heap[b]?=w.heap[b]?) (hlo:lo≤Z.lo) (har:lo≤Z.ar) (hsm:∀ j,j < Z.n→(an j).length≤1000000000∧∀ r∈an j,r.l.length≤1000000000)
  (ho:∃ m xs,RowB lo w'.heap.size w' 3 1 vo m xs) (hs:∃ m xs,RowB lo w'.heap.size w' 2 1 vs m xs):TrW lo w'.heap.size w' Z.ar Z.n c vo vs:=by
 have k40:=(hk _ _ 40 h.ar (.inl rfl)).trans h.ar;refine ⟨har,(yah.1 k40).1,k40,h.size,fun j hj=>?_,h.dis,ho,hs⟩;have hrow:=h.row j hj;have hlen:=h.len j hj;have keep:∀ {e:TypeId} {sz:Nat} {v:Value} {n:Nat} {xs:List Value},w.ownsRow Z.lo e sz v n xs→e=42∨e=2→w'.ownsRow Z.lo e sz v n xs:=fun {e sz v n xs} hr he=>zal hr fun g ob hg hh=>by
  obtain ⟨cc,hcc⟩:=zak hr hg;exact (hk _ _ e hcc (.inr he)).trans hh
 refine ⟨_,_,zmw (keep hrow (.inl rfl)) hlo,(hsm j hj).1,fun k hkk=>?_⟩;obtain ⟨r,hr⟩:∃ r,(an j)[k]?=some r:=⟨_,List.getElem?_eq_getElem hkk⟩;obtain ⟨u,hu⟩:∃ u,(us j)[k]?=some u:=⟨_,List.getElem?_eq_getElem (by omega)⟩;obtain ⟨_,_,a3⟩:=zhy _ _ k r u hr hu;exact ⟨u,_,_,a3,(hsm j hj).2 r (List.mem_of_getElem? hr),zmw (keep (h.lst j k r u hj hr hu).row (.inr rfl)) hlo⟩
theorem zqk {Z:AL} {an:Nat→List Ans} {c:Array Value} {vs:Nat→List Value} {own:Nat→Owner} {w w':World} (h:AnsRep Z an c vs own w) (har:Z.lo≤Z.ar) (hk:∀ (b:Nat) (c:Array Value) (t:TypeId),Z.lo≤b→w.heap[b]?=some (Obj.cells c t (0,0))→t=40∨t=42∨t=2→w'.heap[b]?=w.heap[b]?):zv8 w' (.slice (some ⟨Z.ar,0,none⟩) Z.n Z.n) ((List.range Z.n).map an):=by
 refine ⟨_,Z.n,by simp,fun hne=>⟨Z.ar,0,rfl,fun i l hi=>?_⟩⟩;have hlt:i < Z.n:=by
  have:=(yai.1 hi).1
  simpa using this
 obtain rfl:an i=l:=by simpa [hlt] using hi
 have hi':i < c.size:=by have:=h.size;omega
 have hrow:=h.row i hlt;have hlen:=h.len i hlt;refine ⟨c.getD i undef,?_,?_⟩
 ·rw [Nat.zero_add,zac ((hk _ _ 40 har h.ar (.inl rfl)).trans h.ar) i];simp [hi']
 ·rcases hrow.2 with ⟨e,q⟩|⟨g,cap,cur,e,q1,q2,q3,q4,q5,q6⟩
  ·rw [e];exact ⟨none,0,by rw [q],fun hne=>absurd (List.length_eq_zero_iff.1 q) hne⟩
  ·rw [e];refine ⟨_,cap,rfl,fun hne=>⟨g,0,rfl,fun j r hj=>?_⟩⟩;have hjl:=(yai.1 hj).1;obtain ⟨u,hu⟩:∃ u,(vs i)[j]?=some u:=⟨_,List.getElem?_eq_getElem (by omega)⟩;obtain ⟨a1,a2,a3⟩:=zhy _ _ j r u hj hu;have get:∀ x,x < (an i).length * 3→cur[x]?=(zfl (an i) (vs i))[x]?:=fun x hx=>by
    rw [← q6,List.getElem?_take_of_lt hx];simp
   have q2':=(hk _ _ 42 q1 q2 (.inr (.inl rfl))).trans q2;rw [Nat.zero_add,zac q2',zac q2',zac q2',get _ (by omega),get _ (by omega),get _ (by omega)];refine ⟨a1,a2,u,a3,zc6 (zal (h.lst i j r u hlt hj hu).row fun g' ob hg hh=>?_)⟩;obtain ⟨cc,hcc⟩:=zak (h.lst i j r u hlt hj hu).row hg;exact (hk _ _ 2 (zax (h.lst i j r u hlt hj hu).row hg).1 hcc (.inr (.inr rfl))).trans hh
open Classical in
theorem zge {Q:Machine→Trace→Prop} {fr:Frame} {cs:List Frame} {w:World} {l:List Int} {LL:List (List OpD)} {sch:List Int} {vl vt vs:Value} (hW:IntsIn w vl l) (hT:ThrIn w vt LL) (hLL:LL.length≤1000000000) (hlen:l.length≤1000000000) (hS:IntsIn w vs sch) (hnS:sch.length≤1048576) {most:Int} (hmost:most < 9223372036854775808)
  (hsm:∀ X∈(trG l LL sch most).ans,X.length≤1000000000∧∀ r∈X,r.l.length≤1000000000)
  (h:∀ ar n c vo vs w',(∀ w2:World,(∀ b,w.heap.size≤b→b < w'.heap.size→w2.heap[b]?=w'.heap[b]?)→TrIn w2 (.agg #[.slice (some ⟨ar,0,none⟩) n n,vo,vs,.bool (trG l LL sch most).stuck]) (trG l LL sch most))→TrW w.heap.size w'.heap.size w' ar n c vo vs→(∀ b,b < w.heap.size→w'.heap[b]?=w.heap[b]?)→w.heap.size≤w'.heap.size→(w'.os=w.os∧w'.output=w.output)→RM Try.prog Q (G (Frame.finish fr (.agg #[.slice (some ⟨ar,0,none⟩) n n,vo,vs,.bool (trG l LL sch most).stuck])) cs) w') :
  RM Try.prog Q (G (Frame.enter Try.prog 18 #[vl,vt,vs,.int .i64 most] .normal) (fr::cs)) w:=by
 rw [enter_at _ Try.func18 rfl];simp only [Try.ntmps18,yan,yau,yav,Nat.reduceAdd,Nat.reduceSub,yao,
   yap,yaq,yar,yas,yat]
 replace h:=yay h;refine zae rm_xc fun R0 hR0=>?_;refine zbn zi6 (zab zaf (by kernel_rfl)) rfl (zaa Try.func18) rfl fun wp hp=>?_
 go_wp2_with fail
 refine fun wa ha=>?_;obtain ⟨N,hN⟩:∃ N,w.heap.size=N:=⟨_,rfl⟩;have sz0:wp.heap.size=N:=by rw [hp.heap];exact hN
 have szA:wa.heap.size=N+1:=by rw [ha.heap];simp [sz0]
 have eA:wa.heap[N]?=some (.cells #[.slice none 0 0,.slice none 0 0,.slice none 0 0,.bool false] 31 (0,0)):=by rw [ha.heap,← sz0];exact heap_alloc_new _ _
 have lowA:∀ b,b < N→wa.heap[b]?=w.heap[b]?:=fun b hb=>by rw [ha.heap,Below.heap_alloc _ _ _ (by omega),hp.heap]
 have outA:wa.os=w.os∧wa.output=w.output:=⟨ha.outs.1.trans hp.outs.1,ha.outs.2.trans hp.outs.2⟩;rw [sz0];clear ha hp sz0 wp;obtain rfl:=hR0.out;clear hR0;refine zae rm_xc fun R0 hR0=>?_;refine zdi 1 (by decide) (by decide) (zah (by kernel_rfl)) fun wp hp=>?_;simp only [yad,yae];replace hp:=yay hp
 go_wp2_with fail
 refine zaz rfl fun wb hb=>?_;have eb:wb.heap=wa.heap:=hb.heap.trans hp.out.heap;have ob:wb.os=w.os∧wb.output=w.output:=⟨(hb.outs.1.trans hp.out.outs.1).trans outA.1,(hb.outs.2.trans hp.out.outs.2).trans outA.2⟩;clear hb hp wp;have zs1:∀ b,b < w.heap.size→wb.heap[b]?=w.heap[b]?:=fun b hb=>by rw [eb];exact lowA b (by omega)
 have hWb:=hW.keep zs1;have hTb:=hT.keep zs1;have hSb:=hS.keep zs1;refine zav rm_xc rfl rfl (by decide) rfl Try.func77 (by kernel_rfl) (by kernel_rfl) ?_;walk_nrm;refine zl8 hWb hlen fun gb ownF w2 NF o2'=>?_;have o2:w2.os=w.os∧w2.output=w.output:=⟨o2'.1.trans ob.1,o2'.2.trans ob.2⟩;rw [Frame.finish_at];walk_nrm;unfold gpv;refine zb7 2 1 (by decide) (by decide) (zah (by kernel_rfl)) fun wp hp=>?_;simp only [yaf,yag,yad,yae];replace hp:=yay hp
 go_wp2_with fail
 refine zaz rfl fun w3 h3=>?_;have e3:w3.heap=w2.heap:=h3.heap.trans hp.out.heap;have o3:w3.os=w.os∧w3.output=w.output:=⟨(h3.outs.1.trans hp.out.outs.1).trans o2.1,(h3.outs.2.trans hp.out.outs.2).trans o2.2⟩;clear h3 hp wp;refine zad rm_xc ?_;obtain rfl:=hR0.out;clear hR0;refine zae rm_xc fun R0 hR0=>?_;refine zdi 5 (by decide) (by decide) (zah (by kernel_rfl)) fun wp hp=>?_;simp only [yad,yae];replace hp:=yay hp
 go_wp2_with fail
 refine zaz rfl fun w4 h4=>?_;have e4:w4.heap=w2.heap:=(h4.heap.trans hp.out.heap).trans e3;have o4:w4.os=w.os∧w4.output=w.output:=⟨(h4.outs.1.trans hp.out.outs.1).trans o3.1,(h4.outs.2.trans hp.out.outs.2).trans o3.2⟩;clear h4 hp wp e3 o3;have NF4:=NF.more (zeq gb) (w2:=w4) (by rw [e4];exact yax _) fun b _=>by rw [e4]
 have sb:=NF4.size;have hgbW:wb.heap.size≤gb:=by
  rcases Nat.lt_or_ge gb wb.heap.size with z|z
  ·have h1:=NF4.old gb z;rw [NF4.rep.sh] at h1;cases h1
  ·exact z
 clear NF;refine zav rm_xc rfl rfl (by decide) rfl Try.func78 (by kernel_rfl) (by kernel_rfl) ?_;walk_nrm;refine zq6 (zeq gb) (fdo:=79) (recv:=gpv gb) (doφ:=doG (idL GateS) (moF most)) Try.func79 (by kernel_rfl) (by kernel_rfl) (fun Z U i=>zyk (zph (GRep.local (zeq gb))) (zq5 rfl) _ (fun hR=>GRep.size hR)) (fun i o κ hκ=>zyd o κ hκ) (fun o κ hκ=>zyh (yax _) o κ hκ) NF4 hTb hLL hSb hnS hmost fun Z own' w5 vo Yn Zlo R5 low5 sz5 outs5 fr5 row5=>?_
 change GRep (GateAt gb) Z (zd3 l LL sch most).m own' w5 at R5
 change w5.ownsRow w4.heap.size 3 1 vo (zd3 l LL sch most).ord.length (za8 (zd3 l LL sch most).ord) at row5
 have hst:zbb (zkk (doG (idL GateS) (moF most)) (stB (l.take 64) (l.take 64).length) LL sch most).co (min LL.length 64)=zbb (zd3 l LL sch most).co (min LL.length 64):=rfl;rw [hst];have htr:trG l LL sch most=⟨(List.range (min LL.length 64)).map (zd3 l LL sch most).m.an,(zd3 l LL sch most).ord,zdq (zd3 l LL sch most).m.st,decide (0 < zbb (zd3 l LL sch most).co (min LL.length 64))⟩:=rfl;rw [htr] at h hsm;generalize zd3 l LL sch most=gf at *;clear hst htr;have o5:w5.os=w.os∧w5.output=w.output:=⟨outs5.1.trans o4.1,outs5.2.trans o4.2⟩;have hNb:wb.heap.size=N+1:=by rw [eb];exact szA
 clear NF4 outs5 hTb hSb hWb;rw [Frame.finish_at];obtain ⟨n,hn⟩:∃ n,min LL.length 64=n:=⟨_,rfl⟩;rw [hn] at Yn h ⊢;obtain ⟨vp,vc2,rfl⟩:∃ vp vc2,vo = .slice vp gf.ord.length vc2:=zba row5;rw [Yn];obtain ⟨K,hK⟩:∃ K,w5.heap.size=K:=⟨_,rfl⟩;refine zb7 6 2 (by decide) (by decide) (zah (by kernel_rfl)) fun wp hp=>?_;simp only [yaf,yag,yad,yae];unfold zta;have szp:wp.heap.size=K:=by rw [hp.heap];exact hK
 replace hp:=yay hp;replace row5:=yay row5;replace hn:=yay hn;replace Yn:=yay Yn
 go_wp2_with fail
 refine zaz rfl fun w6 h6=>?_;refine zad rm_xc ?_;obtain rfl:=hR0.out;clear hR0;have e6:w6.heap[K]?=some (.cells #[.slice (some ⟨Z.ar,0,none⟩) n n,.slice vp gf.ord.length vc2,.slice none 0 0,.bool (decide (0 < zbb gf.co n))] 31 (0,0)):=by
  rw [h6.heap,← szp];exact heap_alloc_new _ _
 have low6:∀ b,b < K→w6.heap[b]?=w5.heap[b]?:=fun b hb=>by rw [h6.heap,Below.heap_alloc _ _ _ (by omega),hp.out.heap]
 have sz6:w6.heap.size=K+1:=by rw [h6.heap];simp [szp]
 have o6:w6.os=w.os∧w6.output=w.output:=⟨(h6.outs.1.trans hp.out.outs.1).trans o5.1,(h6.outs.2.trans hp.out.outs.2).trans o5.2⟩;have eA6:w6.heap[N]?=some (.cells #[.slice none 0 0,.slice none 0 0,.slice none 0 0,.bool false] 31 (0,0)):=(low6 _ (by omega)).trans ((low5 _ (by omega)).trans (by rw [eb];exact eA));clear h6 hp szp wp;obtain ⟨gp,gc,g1,_⟩:=R5.fam.cell;have og:=R5.fam.sh;have gK:gb < K:=by have:=(yah.1 g1).1;omega
 let own2:Nat→Owner:=fun b=>if b=gb then .sh else if ∃ t,0 < t∧own' b = .tag t then own' b else if b < K+1 then .tag 0 else .out
 have Rz:GateAt gb gf.m.st own2 w6:=by
  refine zf3 R5.fam ⟨if_pos rfl,low6 gb gK⟩ (fun b v hv hb=>⟨?_,low6 b ?_⟩) fun b v hb=>?_
  ·have hne:b≠gb:=fun z=>by rw [z,og] at hb;cases hb
   show (if b=gb then _ else _)=_;rw [if_neg hne,if_pos ⟨v,hv,hb⟩];exact hb
  ·rcases Nat.lt_or_ge b K with z|z
   ·exact z
   ·rw [fr5 b (by omega)] at hb;cases hb
  ·have hb':(if b=gb then Owner.sh else if ∃ t,0 < t∧own' b = .tag t then own' b else if b < K+1 then .tag 0 else .out) = .tag v:=hb;split at hb'
   ·cases hb'
   ·split at hb'
    ·exact .inl hb'
    ·split at hb'
     ·cases hb';exact .inr (by omega)
     ·cases hb'
 refine zae rm_xc fun R0 hR0=>?_;refine zdi 1 (by decide) (by decide) (zah (by kernel_rfl)) fun wp hp=>?_;simp only [yad,yae];replace hp:=yay hp
 go_wp2_with fail
 refine zaz rfl fun w7 h7=>?_;have e7:w7.heap=w6.heap:=h7.heap.trans hp.out.heap;have o7:w7.os=w.os∧w7.output=w.output:=⟨(h7.outs.1.trans hp.out.outs.1).trans o6.1,(h7.outs.2.trans hp.out.outs.2).trans o6.2⟩;clear h7 hp wp;refine zav rm_xc rfl rfl (by decide) rfl Try.func80 (by kernel_rfl) (by kernel_rfl) ?_;walk_nrm;have Rz7:GateAt gb gf.m.st own2 w7:=zf3 Rz ⟨if_pos rfl,by rw [e7]⟩ (fun b v _ hb=>⟨hb,by rw [e7]⟩) fun b v hb => .inl hb;have fr2:∀ b,w7.heap.size≤b→own2 b = .out:=fun b hb=>by
  rw [e7,sz6] at hb;show (if b=gb then _ else _)=_;rw [if_neg (by omega),if_neg (by rintro ⟨t,_,z⟩;rw [fr5 b (by omega)] at z;cases z),if_neg (by omega)]
 refine zlk Rz7 fr2 (fun b hb hne=>?hfz) fun sv w8 row8 low8 sz8 o8'=>?_
 case hfz =>
  rw [e7,sz6] at hb;show ∃ t,(if b=gb then _ else _)=_;rw [if_neg hne];split
  ·rename_i hx;obtain ⟨t,_,ht⟩:=hx;exact ⟨t,ht⟩
  ·exact ⟨0,rfl⟩
 have o8:w8.os=w.os∧w8.output=w.output:=⟨o8'.1.trans o7.1,o8'.2.trans o7.2⟩;have k8:∀ b,b < K+1→b≠gb→w8.heap[b]?=w6.heap[b]?:=fun b hb hne=>(low8 b (by rw [e7,sz6];exact hb) hne).trans (by rw [e7]);have nK:K≠gb:=by omega
 have nN:N≠gb:=fun z=>by
  rw [← z] at g1;have h1:w5.heap[N]?=some (.cells #[.slice none 0 0,.slice none 0 0,.slice none 0 0,.bool false] 31 (0,0)):=(low5 N (by omega)).trans (by rw [eb];exact eA);rw [h1] at g1;simp at g1
 have e8:=(k8 K (by omega) nK).trans e6;have eA8:=(k8 N (by omega) nN).trans eA6;have sz8':K+1≤w8.heap.size:=by rw [e7,sz6] at sz8;exact sz8
 have hK7:w7.heap.size=K+1:=by rw [e7];exact sz6
 rw [hK7] at row8;clear o8' low8 sz8 fr2 Rz7 Rz o7 o6 o5 o4 o2 ob outA hK7 e7;rw [Frame.finish_at];walk_nrm;obtain ⟨sp,sc,rfl⟩:=zba row8;obtain ⟨sn,hsn⟩:∃ sn,(zdq gf.m.st).length=sn:=⟨_,rfl⟩;rw [hsn] at row8 ⊢;refine zb7 2 2 (by decide) (by decide) (zah (by kernel_rfl)) fun wp hp=>?_;simp only [yaf,yag,yad,yae];have gM:wp.heap[K]?=_:=(congrArg (·[K]?) hp.heap).trans e8;have c2:=zac gM 2;have z2:=zat gM 2;simp only [yac,yaa,yab] at c2;replace gM:=yay gM;replace hp:=yay hp;replace row8:=yay row8;replace hsn:=yay hsn
 go_wp2_with fail
 refine zaz rfl fun w9 h9=>?_;refine zad rm_xc ?_;obtain rfl:=hR0.out;clear hR0;have s9:=zau gM.out 2 (.slice sp sn sc);rw [← h9.heap] at s9;simp only [yan,yau,yav,yak,yam,yal] at s9;have k9:∀ b,b≠K→w9.heap[b]?=w8.heap[b]?:=fun b hb=>by rw [h9.heap,Below.heap_setCell _ _ _ _ hb,hp.out.heap]
 have z9:w9.heap.size=w8.heap.size:=by rw [h9.heap];simp [World.setCell];rw [hp.out.heap]
 have o9:w9.os=w.os∧w9.output=w.output:=⟨(h9.outs.1.trans hp.out.outs.1).trans o8.1,(h9.outs.2.trans hp.out.outs.2).trans o8.2⟩;clear h9 hp gM c2 z2 wp;refine zae rm_xc fun R0 hR0=>?_;refine zbn zi6 (zab zaf (by kernel_rfl)) rfl (zaa Try.func18) rfl fun wq hq=>?_;have g6:wq.heap[K]?=_:=(congrArg (·[K]?) hq.heap).trans s9;have g0:wq.heap[N]?=some (.cells #[.slice none 0 0,.slice none 0 0,.slice none 0 0,.bool false] 31 (0,0)):=(congrArg (·[N]?) hq.heap).trans ((k9 _ (by omega)).trans eA8);have d0:=zac g6 0;have d1:=zac g6 1;have d2:=zac g6 2;have d3:=zac g6 3;have c0:=zac g0 0;have c1:=zac g0 1;have c3:=zac g0 3;have c22:=zac g0 2;have y0:=zat g0 0;have y1:=zat g0 1;have y2:=zat g0 2;have y3:=zat g0 3;simp only [yac,yaa,yab] at c0 c1 c22 c3 d0 d1 d2 d3;replace g0:=yay g0;replace g6:=yay g6;replace s9:=yay s9;replace hq:=yay hq
 go_wp2_with fail
 refine fun w10 h10=>?_;obtain ⟨s1,s2,s3⟩:=set4 (x := .slice (some ⟨Z.ar,0,none⟩) n n) (y := .slice vp gf.ord.length vc2) (z := .slice sp sn sc) (u := .bool (decide (0 < zbb gf.co n))) g0.out;have hh:=h10.heap;rw [← hh] at s1 s2 s3;have o10:w10.os=w.os∧w10.output=w.output:=⟨(h10.outs.1.trans hq.out.outs.1).trans o9.1,(h10.outs.2.trans hq.out.outs.2).trans o9.2⟩;have k10:∀ b,b≠N→w10.heap[b]?=w9.heap[b]?:=fun b hb=>(s2 b hb).trans (congrArg (·[b]?) hq.out.heap);have z10:w10.heap.size=w8.heap.size:=by rw [s3,hq.out.heap,z9]
 clear h10 hh s2 s3 c0 c1 c22 c3 y0 y1 y2 y3 d0 d1 d2 d3 g0 g6 hq wq;obtain rfl:=hR0.out;clear hR0;refine zct rm_xc ?_;refine za4 rm_xc (zaa Try.func18) (zbl _) (v := .agg #[.slice (some ⟨Z.ar,0,none⟩) n n,.slice vp gf.ord.length vc2,.slice sp sn sc,.bool (decide (0 < zbb gf.co n))]) (by
  rw [zcn];exact ⟨rfl,rfl,rfl,_,Try.func18,results_cell_row rfl _ _ N 31 _ (0,0) _ rfl s1 Try.underlying31 rfl ztv⟩) ?_
 have k58:∀ (b:Nat) (c:Array Value) (t:TypeId),w5.heap[b]?=some (Obj.cells c t (0,0))→t≠31→t≠66→w10.heap[b]?=w5.heap[b]?:=fun b c t hb ht h66=>by
  have hlt:=(yah.1 hb).1;have n1:b≠N:=fun z=>by
   rw [← low6 b (by omega),z,eA6] at hb;simp at hb;exact ht hb.2.symm
  have n3:b≠gb:=fun z=>by
   rw [z,g1] at hb;simp at hb;exact h66 hb.2.symm
  rw [k10 b n1,k9 b (by omega),k8 b (by omega) n3,low6 b (by omega)]
 obtain ⟨ac,avs,ha⟩:=R5.ans;have ra:=zl9 ha (w':=w10) fun b c t hb ht=>k58 b c t hb (by rcases ht with z|z|z<;>rw [z]<;>decide) (by rcases ht with z|z|z<;>rw [z]<;>decide);rw [Yn.out] at ra;have ro:IntsAt w10 (.slice vp gf.ord.length vc2) gf.ord:=zc6 (zal row5.out fun g o hg hh=>by
  obtain ⟨cc,hcc⟩:=zak row5.out hg;exact (k58 _ _ 3 hcc (by decide) (by decide)).trans hh)
 have rs:IntsAt w10 (.slice sp sn sc) (zdq gf.m.st):=zc6 (n:=sn) (zal row8.out fun g o hg hh=>by
  have h1:=(zax row8.out hg).1;exact (k10 g (by omega)).trans ((k9 g (by omega)).trans hh))
 have ro2:w10.ownsRow w4.heap.size 3 1 (.slice vp gf.ord.length vc2) gf.ord.length (za8 gf.ord):=zal row5.out fun g o hg hh=>by
  obtain ⟨cc,hcc⟩:=zak row5.out hg;exact (k58 _ _ 3 hcc (by decide) (by decide)).trans hh
 have rs2:w10.ownsRow (K+1) 2 1 (.slice sp sn sc) sn (za8 (zdq gf.m.st)):=zal row8.out fun g o hg hh=>by
  have h1:=(zax row8.out hg).1;exact (k10 g (by omega)).trans ((k9 g (by omega)).trans hh)
 have tw:=trW_of (lo:=w.heap.size) ha (w':=w10) (vo := .slice vp gf.ord.length vc2) (vs := .slice sp sn sc) (fun b c t hb ht=>k58 b c t hb (by rcases ht with z|z|z<;>rw [z]<;>decide) (by rcases ht with z|z|z<;>rw [z]<;>decide)) (by omega) (by have:=R5.lo;omega) (fun j hj=>hsm _ (List.mem_map.2 ⟨j,List.mem_range.2 (by have:=hn.out;have:=Yn.out;omega),rfl⟩)) ⟨_,_,zmw ro2 (by omega)⟩ ⟨_,_,zmw rs2 (by omega)⟩;rw [Yn.out] at tw;have lt10:∀ b o,w10.heap[b]?=some o→b < w10.heap.size:=fun b o hb=>(yah.1 hb).1;have tin:∀ w2:World,(∀ b,w.heap.size≤b→b < w10.heap.size→w2.heap[b]?=w10.heap[b]?)→TrIn w2 (.agg #[.slice (some ⟨Z.ar,0,none⟩) n n,.slice vp gf.ord.length vc2,.slice sp sn sc,.bool (decide (0 < zbb gf.co n))]) ⟨(List.range n).map gf.m.an,gf.ord,zdq gf.m.st,decide (0 < zbb gf.co n)⟩:=fun w2 hw2=>by
  have r1:=zqk ha (w':=w2) R5.lo fun b c t hlo hb ht=>by
   have e:=k58 b c t hb (by rcases ht with z|z|z<;>rw [z]<;>decide) (by rcases ht with z|z|z<;>rw [z]<;>decide);exact (hw2 b (by omega) (lt10 b _ (e.trans hb))).trans e
  rw [Yn.out] at r1;refine ⟨.slice (some ⟨Z.ar,0,none⟩) n n,.slice vp gf.ord.length vc2,.slice sp sn sc,rfl,r1,zc6 (zal ro2 fun g o hg hh=>?_),zc6 (n:=sn) (zal rs2 fun g o hg hh=>?_)⟩
  ·exact (hw2 g (by have:=(zax ro2 hg).1;omega) (lt10 g _ hh)).trans hh
  ·exact (hw2 g (by have:=(zax rs2 hg).1;omega) (lt10 g _ hh)).trans hh
 refine h.out Z.ar n ac (.slice vp gf.ord.length vc2) (.slice sp sn sc) w10 tin tw (fun b hb=>?_) (by omega) o10;have hbN:b < N:=by omega
 have nb:b≠gb:=by omega
 rw [k10 b (by omega),k9 b (by omega),k8 b (by omega) nb,low6 b (by omega),low5 b (by omega),zs1 b (by omega)]
def zkg (s:GateS) (p a:Int):Int×GateS:=if p < 0∨64≤p then (1,s) else if p∈s.mem then (7,s) else (0,zuo s p a)
def zhv (s:GateS) (p:Int):Int×GateS:=if p < 0∨64≤p then (1,s) else if p∈s.mem then (0,{ s with ser:=s.ser+1,mem:=s.mem.erase p }) else (6,s)
def zfz (num:Nat→Int):List Int→Int→Int→Int×Int
 | [],n,p=>(n,p)
 | q::l,n,p=>if p < 0∨num q.toNat < n then zfz num l (num q.toNat) q else zfz num l n p
def mayR (s:GateS) (q size:Int):Bool×Int:=if q < -9223372036854775808+max size 1∨q - max size 1≤(zfz s.num s.mem q (-1)).1 then (true,-1) else (false,(zfz s.num s.mem q (-1)).2)
theorem zjj {Q:Nat→SM GateS→Prop} {an:Nat→List Ans} {s:GateS} {κ:Int→Int→Fu (SM GateS)}:∀ (l:List Int) (n p:Int) (x:Nat),(∀ q∈l,0≤q∧q < 64)→x+l.length≤1000→(∀ y,y≤1000→FF Q (κ (zfz s.num l n p).1 (zfz s.num l n p).2) y ⟨s,an⟩)→FF Q (zbs (idL GateS) κ l n p) x ⟨s,an⟩
 | [],n,p,x,hl,hx,h=>h x (by simp at hx;omega)
 | q::l,n,p,x,hl,hx,h=>by
  have hq:=hl q (List.mem_cons_self ..);simp only [yau] at hx;unfold zbs znl;rw [if_neg (by omega)];refine zep (by omega) ?_;show FF Q (if p < 0∨s.num q.toNat < n then zbs (idL GateS) κ l (s.num q.toNat) q else zbs (idL GateS) κ l n p) (x+1) ⟨s,an⟩;unfold zfz at h;by_cases hc:p < 0∨s.num q.toNat < n
  ·rw [if_pos hc] at h ⊢;exact zjj l _ _ (x+1) (fun y hy=>hl y (List.mem_cons_of_mem _ hy)) (by omega) h
  ·rw [if_neg hc] at h ⊢;exact zjj l _ _ (x+1) (fun y hy=>hl y (List.mem_cons_of_mem _ hy)) (by omega) h
section
variable {Z:Machine→Trace→Prop} {gb:Nat} {s:GateS} {own:Nat→Owner} {w:World} {c:Frame} {cs:List Frame}
theorem zw9 {Q:Nat→SM GateS→Prop} {o:Os×Array (Nat×ByteArray)}:(zim (zi4 gb) 0 Z Q o).Ok:=zm2 (locG gb)
theorem zkf (G0:GW gb s own w) {p a:Int} (ha:zd5 a) (h:∀ own' w',GW gb (zkg s p a).2 own' w'→Left own own' w w'→RM Try.prog Z (G (c.finish (.int .i64 (zkg s p a).1)) cs) w') :
  RM Try.prog Z (G (Frame.enter Try.prog 73 #[gpv gb,.nilIface,.int .i64 p,.int .i64 a] .normal) (c::cs)) w:=by
 refine zm1 (ρ:=Int) (r0:=(zkg s p a).1) (V:=fun e => .int .i64 e) (Φ:=zfc (idL GateS) 1 p a) (s':=(zkg s p a).2) G0 (fun {Q o w₀ κ} hκ=>zm7 (md:=zim (zi4 gb) 0 Z Q o) zw9 zlq ha 1 trivial fun e _=>hκ e) (fun {Q κ} hr=>?_) h;unfold zkg at hr;by_cases hb:p < 0∨64≤p
 ·unfold zfc;rw [if_pos hb] at hr ⊢;exact hr 0 (by omega)
 ·rw [if_neg hb] at hr;by_cases hm:p∈s.mem
  ·rw [if_pos hm] at hr;unfold zfc;rw [if_neg hb];unfold ze1;refine zep (by omega) ?_;show FF Q (zf0 (idL GateS) p a κ _ s.ser s.mem) 1 ⟨s,fun _=>[]⟩;unfold zf0;rw [if_pos hm];exact hr 1 (by omega)
  ·rw [if_neg hm] at hr;exact zu8 (by omega) (by omega) hm (by omega) (hr 3 (by omega))
theorem zlw (G0:GW gb s own w) {p:Int} (h:∀ own' w',GW gb (zhv s p).2 own' w'→Left own own' w w'→RM Try.prog Z (G (c.finish (.int .i64 (zhv s p).1)) cs) w') :
  RM Try.prog Z (G (Frame.enter Try.prog 76 #[gpv gb,.nilIface,.int .i64 p] .normal) (c::cs)) w:=by
 refine zm1 (ρ:=Int) (r0:=(zhv s p).1) (V:=fun e => .int .i64 e) (Φ:=zdv (idL GateS) 1 p) (s':=(zhv s p).2) G0 (fun {Q o w₀ κ} hκ=>zoj (md:=zim (zi4 gb) 0 Z Q o) zw9 zlq 1 trivial fun e _=>hκ e) (fun {Q κ} hr=>?_) h;unfold zhv at hr;by_cases hb:p < 0∨64≤p
 ·unfold zdv;rw [if_pos hb] at hr ⊢;exact hr 0 (by omega)
 ·rw [if_neg hb] at hr;unfold zdv;rw [if_neg hb];unfold zec;refine zep (by omega) ?_;show FF Q (zed (idL GateS) p κ _ s.ser s.mem) 1 ⟨s,fun _=>[]⟩;unfold zed;by_cases hm:p∈s.mem
  ·rw [if_pos hm] at hr ⊢;refine zep (by omega) ?_;unfold FF zgl;rw [if_pos (show ((idL GateS).get (SM.mk s fun _=>[]).st).ser=s.ser from rfl)]
   exact hr 2 (by omega)
  ·rw [if_neg hm] at hr ⊢;exact hr 1 (by omega)
theorem zso (G0:GW gb s own w) {none:Int} (hn:zd5 none) (h:∀ own' w',GW gb s own' w'→Left own own' w w'→RM Try.prog Z (G (c.finish (.tuple #[.int .i64 (zfz s.num s.mem none (-1)).1,.int .i64 (zfz s.num s.mem none (-1)).2])) cs) w') :
  RM Try.prog Z (G (Frame.enter Try.prog 74 #[gpv gb,.nilIface,.int .i64 none] .normal) (c::cs)) w:=by
 refine zm1 (ρ:=Int×Int) (r0:=zfz s.num s.mem none (-1)) (V:=fun e => .tuple #[.int .i64 e.1,.int .i64 e.2]) (Φ:=fun κ=>zfi (idL GateS) none fun n p=>κ (n,p)) (s':=s) G0 (fun {Q o w₀ κ} hκ=>zkd (md:=zim (zi4 gb) 0 Z Q o) zw9 zlq hn trivial fun n p _ _=>hκ (n,p)) (fun {Q κ} hr=>?_) h;refine zep (by omega) ?_;exact zjj (κ:=fun n p=>κ (n,p)) s.mem none (-1) 1 G0.rep.mem.2 (by have:=zcj G0.rep.mem;omega) hr
theorem zrc (G0:GW gb s own w) {q size:Int} (hq:zd5 q) (hs:zd5 size) (h:∀ own' w',GW gb s own' w'→Left own own' w w'→RM Try.prog Z (G (c.finish (.tuple #[.bool (mayR s q size).1,.int .i64 (mayR s q size).2])) cs) w') :
  RM Try.prog Z (G (Frame.enter Try.prog 75 #[gpv gb,.nilIface,.int .i64 q,.int .i64 size] .normal) (c::cs)) w:=by
 refine zm1 (ρ:=Bool×Int) (r0:=mayR s q size) (V:=fun e => .tuple #[.bool e.1,.int .i64 e.2]) (Φ:=fun κ=>zx6 (idL GateS) q size fun t p=>κ (t,p)) (s':=s) G0 (fun {Q o w₀ κ} hκ=>zuj (md:=zim (zi4 gb) 0 Z Q o) zw9 zlq hq hs trivial fun t p _=>hκ (t,p)) (fun {Q κ} hr=>?_) h;refine zep (by omega) ?_;refine zjj s.mem q (-1) 1 G0.rep.mem.2 (by have:=zcj G0.rep.mem;omega) fun y hy=>?_;unfold mayR at hr;split
 ·rename_i hc;rw [if_pos hc] at hr;exact hr y hy
 ·rename_i hc;rw [if_neg hc] at hr;exact hr y hy
end
def fxT:Tr:=trG [] [[⟨1,0,5,0⟩],[⟨1,1,6,0⟩]] [0,1,0,1,0,1] 99
theorem fx_ord:fxT.ord.length=9:=by decide +kernel
theorem fx_st:fxT.st.length=67∧fxT.st[0]?=some 2∧fxT.st[1]?=some 0∧fxT.st[2]?=some 1∧fxT.st[3]?=some 5∧fxT.st[4]?=some 6:=by decide +kernel
theorem fx_an:fxT.ans.length=2:=by decide +kernel
def sG0:GateS:=⟨0,[],fun _ => -1⟩
def sG1:GateS:=(zkg sG0 3 10).2
def sG2:GateS:=(zkg sG1 1 7).2
def sG3:GateS:=(zkg sG2 3 0).2
def sG4:GateS:=(zhv sG3 3).2
theorem zxn:(zkg sG0 3 10).1=0∧(zkg sG1 1 7).1=0∧(zkg sG2 3 0).1=7∧zfz sG3.num sG3.mem 0 (-1)=(7,1)∧(mayR sG3 15 8).1=true∧mayR sG3 16 8=(false,1)∧(zhv sG3 3).1=0∧(zhv sG4 3).1=6:=by decide +kernel
structure LeftW (w w':World):Prop where
 same:∀ b,b < w.heap.size→w'.heap[b]?=w.heap[b]?
 size:w.heap.size≤w'.heap.size
 outs:w'.os=w.os∧w'.output=w.output
theorem LeftW.trans {w1 w2 w3:World} (h1:LeftW w1 w2) (h2:LeftW w2 w3):LeftW w1 w3:=⟨fun b hb=>(h2.same b (by have:=h1.size;omega)).trans (h1.same b hb),Nat.le_trans h1.size h2.size,h2.outs.1.trans h1.outs.1,h2.outs.2.trans h1.outs.2⟩
theorem LeftW.of_sim {w w':World} (h:w'.heap=w.heap) (ho:w'.os=w.os∧w'.output=w.output):LeftW w w':=⟨fun b _=>by rw [h],by rw [h];exact yax _,ho⟩
theorem LeftW.alloc {w w':World} (h:LeftW w w') (o:Obj):LeftW w (w'.alloc o):=⟨fun b hb=>(Below.heap_alloc _ _ _ (by have:=h.size;omega)).trans (h.same b hb),by have:=h.size;simp;omega,h.outs⟩
theorem LeftW.refl {w:World}:LeftW w w:=⟨fun _ _=>rfl,yax _,rfl,rfl⟩
theorem LeftW.sim {w w1 w2:World} (h:LeftW w w1) (h2:Sim w2 w1):LeftW w w2:=h.trans (.of_sim h2.heap h2.outs)
theorem NewG.gate {w w1:World} {N:Nat} (h:NewG N 64 w w1) (hN:w.heap.size=N):GW N sG0 (fun b=>if b=N then .sh else .out) w1∧LeftW w w1:=by
 obtain ⟨hb,hs,c,c1,c2,c3,c4⟩:=h;have hno:∀ b t,(if b=N then Owner.sh else .out) ≠ .tag t:=fun b t=>by split<;>simp
 refine ⟨⟨⟨if_pos rfl,⟨none,c,c1,c2,c3,fun j hj=>by rw [c4 j hj,if_pos hj];rfl,.inl ⟨rfl,rfl,rfl⟩⟩,fun j _=>by constructor<;>simp [sG0],⟨List.nodup_nil,fun x hx=>by cases hx⟩,fun b b' t q _=>absurd q (hno b _),fun b t q=>absurd q (hno b _)⟩,fun b hb=>if_neg (by omega),fun b hb=>?_⟩,⟨fun b hb'=>hb.block b (by omega),by omega,hb.os,hb.output⟩⟩;by_cases h:b=N
 ·exact .inl h
 ·rw [if_neg h] at hb;exact absurd rfl hb
structure GL (w:World) (gb:Nat) (s:GateS) (own:Nat→Owner) (w1:World):Prop where
 g:GW gb s own w1
 l:LeftW w w1
 o:∀ b,b < w.heap.size→own b = .out
theorem GL.step {w w1 w2:World} {gb:Nat} {s s':GateS} {own own':Nat→Owner} (h:GL w gb s own w1) (g:GW gb s' own' w2) (l:Left own own' w1 w2):GL w gb s' own' w2 :=
 ⟨g,⟨fun b hb=>(l.same b (by have:=h.l.size;omega) (h.o b hb)).2.trans (h.l.same b hb),Nat.le_trans h.l.size l.size,l.outs.1.trans h.l.outs.1,l.outs.2.trans h.l.outs.2⟩,fun b hb=>(l.same b (by have:=h.l.size;omega) (h.o b hb)).1⟩
theorem GL.sim {w w1 w2:World} {gb:Nat} {s:GateS} {own:Nat→Owner} (h:GL w gb s own w1) (e:w2.heap=w1.heap) (ho:w2.os=w1.os∧w2.output=w1.output):GL w gb s own w2 :=
 ⟨h.g.keep (by rw [e];exact yax _) (fun b _ _=>by rw [e]),h.l.trans (.of_sim e ho),h.o⟩
theorem alloc4 {w W:World} {a b c d:Obj} {N:Nat} (hN:w.heap.size=N) (h:W.heap=((((w.alloc a).alloc b).alloc c).alloc d).heap):W.heap[N]?=some a∧W.heap[N+1]?=some b∧W.heap[N+1+1]?=some c∧W.heap[N+1+1+1]?=some d:=by
 subst hN;have s1:(w.alloc a).heap.size=w.heap.size+1:=by simp
 have s2:((w.alloc a).alloc b).heap.size=w.heap.size+1+1:=by simp
 have s3:(((w.alloc a).alloc b).alloc c).heap.size=w.heap.size+1+1+1:=by simp
 rw [h];refine ⟨?_,?_,?_,?_⟩
 ·rw [Below.heap_alloc _ _ _ (by omega),Below.heap_alloc _ _ _ (by omega),Below.heap_alloc _ _ _ (by omega)];exact heap_alloc_new _ _
 ·rw [Below.heap_alloc _ _ _ (by omega),Below.heap_alloc _ _ _ (by omega),← s1];exact heap_alloc_new _ _
 ·rw [Below.heap_alloc _ _ _ (by omega),← s2];exact heap_alloc_new _ _
 ·rw [← s3];exact heap_alloc_new _ _
theorem fx_in {w:World} {N:Nat} (m1:w.heap[N]?=some (.cells #[.int .i64 1,.int .i64 0,.int .i64 5,.int .i64 0] 45 (0,0))) (m2:w.heap[N+1]?=some (.cells #[.int .i64 1,.int .i64 1,.int .i64 6,.int .i64 0] 45 (0,0)))
  (m3:w.heap[N+1+1]?=some (.cells #[.slice (some ⟨N,0,none⟩) 1 1,.slice (some ⟨N+1,0,none⟩) 1 1] 34 (0,0))) (m4:w.heap[N+1+1+1]?=some (.cells #[.int .i64 0,.int .i64 1,.int .i64 0,.int .i64 1,.int .i64 0,.int .i64 1] 3 (0,0))) :
  ThrIn w (.slice (some ⟨N+1+1,0,none⟩) 2 2) [[⟨1,0,5,0⟩],[⟨1,1,6,0⟩]]∧IntsIn w (.slice (some ⟨N+1+1+1,0,none⟩) 6 6) [0,1,0,1,0,1]:=by
 have op:∀ {b:Nat} {k a x c:Int},w.heap[b]?=some (.cells #[.int .i64 k,.int .i64 a,.int .i64 x,.int .i64 c] 45 (0,0))→(OpD.mk k a x c).Ok→OpsIn w (some ⟨b,0,none⟩) 1 1 [⟨k,a,x,c⟩]:=fun {b k a x c} hb ho=>by
  refine ⟨fun o h=>by simp at h;subst h;exact ho,rfl,yax _,fun _=>⟨b,0,rfl,fun j p hj=>?_⟩⟩;rcases j with _|j
  ·simp at hj;subst hj;exact ⟨zac hb 0,zac hb 1,zac hb 2,zac hb 3⟩
  ·simp at hj
 refine ⟨⟨_,2,rfl,fun i=>if i=0 then some ⟨N,0,none⟩ else some ⟨N+1,0,none⟩,fun _=>1,fun _=>1,fun _=>⟨N+1+1,0,rfl,fun i L hi=>?_⟩,fun i L hi=>?_⟩,fun x hx=>?_,_,6,rfl,yax _,fun _=>⟨N+1+1+1,0,rfl,fun j x hj=>?_⟩⟩
 ·rcases i with _|_|i
  ·exact zac m3 0
  ·exact zac m3 1
  ·simp at hi
 ·rcases i with _|_|i
  ·simp at hi;subst hi;exact op m1 (by constructor<;>constructor<;>decide)
  ·simp at hi;subst hi;exact op m2 (by constructor<;>constructor<;>decide)
  ·simp at hi
 ·have:x=0∨x=1:=by simp at hx;omega
  rcases this with rfl|rfl<;>constructor<;>decide
 ·rw [Nat.zero_add,zac m4];rcases j with _|_|_|_|_|_|j<;>first|(simp at hj;subst hj;rfl)|(simp at hj)
section
variable {Z:Machine→Trace→Prop} {c:Frame} {cs:List Frame}
theorem zss {w:World} (h:∀ w',LeftW w w'→RM Try.prog Z (G (c.finish (.bool true)) cs) w'):RM Try.prog Z (G (Frame.enter Try.prog 16 #[] .normal) (c::cs)) w:=by
 rw [enter_at _ Try.func16 rfl];simp only [Try.ntmps16,yan,yau,yav,Nat.reduceAdd,Nat.reduceSub,yao,
   yap,yaq,yar,yas,yat]
 replace h:=yay h;have L:LeftW w w := .refl;refine zae rm_xc fun R0 hR0=>?_;refine zbn zi6 (zab zaf (by kernel_rfl)) rfl (zaa Try.func16) rfl fun wp hp=>?_;replace hp:=yay hp
 go_wp2_with fail
 refine fun w1 h1=>?_;replace L:=L.trans ((LeftW.of_sim hp.out.heap hp.out.outs).sim h1);have e1:w1.heap=_:=h1.heap.trans hp.out.heap;clear h1 hp wp;obtain rfl:=hR0.out;clear hR0;clear e1;refine zae rm_xc fun R0 hR0=>?_;refine zdi 6 (by decide) (by decide) (zah (by kernel_rfl)) fun wp hp=>?_;simp only [yad,yae];obtain ⟨N,hN⟩:∃ N,wp.heap.size=N:=⟨_,rfl⟩;replace hN:=yay hN;replace hp:=yay hp
 go_wp2_with fail
 refine zaz rfl fun w2 h2=>?_;replace L:=L.trans ((((((LeftW.of_sim hp.out.heap hp.out.outs).alloc _).alloc _).alloc _).alloc _).sim h2);obtain ⟨m1,m2,m3,m4⟩:=alloc4 hN.out h2.heap;have hNN:=hN.out;rw [hNN] at m3 ⊢;clear h2 hp hNN hN wp;obtain ⟨hT,hS⟩:=fx_in m1 m2 m3 m4;clear m1 m2 m3 m4;refine zav rm_xc rfl rfl (by decide) rfl Try.func18 (by kernel_rfl) (by kernel_rfl) ?_;walk_nrm;refine zua (l:=[]) (LL:=[[⟨1,0,5,0⟩],[⟨1,1,6,0⟩]]) (sch:=[0,1,0,1,0,1]) (most:=99) ⟨fun x hx=>(by cases hx),none,0,rfl,yax _,fun h=>absurd rfl h⟩ hT (by decide) (by decide) hS (by decide) (by decide) fun tv w3 hT3 k3 s3 o3=>?_;replace L:=L.trans ⟨k3,s3,o3⟩
 change TrIn w3 tv fxT at hT3
 obtain ⟨va,vo,vs,rfl,⟨aa,ac,rfl,_⟩,⟨oa,oc,rfl,_⟩,⟨sa,sc,rfl,hst⟩⟩:=hT3;rw [fx_ord,fx_an,fx_st.1];obtain ⟨_,q0,q1,q2,q3,q4⟩:=fx_st;obtain ⟨sb,so,rfl,hc⟩:=hst (by intro z;rw [z] at q0;cases q0);have c0:=hc 0 _ q0;have c1:=hc 1 _ q1;have c2:=hc 2 _ q2;have c3:=hc 3 _ q3;have c4:=hc 4 _ q4;have hsb:=World.block_lt_of_cell? w3 _ c0;clear hc hst q0 q1 q2 q3 q4 k3 s3 o3 hT hS;generalize fxT.stuck=stk;rw [Frame.finish_at];walk_nrm;refine zb7 7 2 (by decide) (by decide) (zah (by kernel_rfl)) fun wp hp=>?_;simp only [yaf,yag,yad,yae];obtain ⟨K,hK⟩:∃ K,wp.heap.size=K:=⟨_,rfl⟩;replace hK:=yay hK;replace hp:=yay hp
 go_wp2_with fail
 refine zaz rfl fun w4 h4=>?_;replace L:=L.trans (((LeftW.of_sim hp.out.heap hp.out.outs).alloc _).sim h4);have e4:w4.heap[K]?=some (.cells #[.slice aa 2 ac,.slice oa 9 oc,.slice (some ⟨sb,so,none⟩) 67 sc,.bool stk] 31 (0,0)):=by rw [h4.heap,← hK.out];exact heap_alloc_new _ _
 have k4:w4.heap[sb]?=w3.heap[sb]?:=by
  have hb:sb < w3.heap.size:=hsb;rw [h4.heap,Below.heap_alloc _ _ _ (by rw [hp.out.heap];exact hb),hp.out.heap]
 have hKK:=hK.out;rw [hKK];clear h4 hp hKK hK hsb wp;refine zad rm_xc ?_;obtain rfl:=hR0.out;clear hR0;refine zae rm_xc fun R0 hR0=>?_;refine zae rm_xc fun R1 hR1=>?_;refine zbn zi6 (zab zaf (by kernel_rfl)) rfl (zaa Try.func16) rfl fun wp hp=>?_;have g4:wp.heap[K]?=_:=(congrArg (·[K]?) hp.heap).trans e4;have d0:=zac g4 0;have d1:=zac g4 1;have d2:=zac g4 2;have cc:∀ i v,w3.cell? ⟨sb,so+i,none⟩=some v→wp.cell? ⟨sb,so+i,none⟩=some v:=fun i v q=>(World.cell?_of_block (w:=w3) (by show wp.heap[sb]?=w3.heap[sb]?;rw [hp.heap,k4])).trans q;replace c0:=cc 0 _ c0;replace c1:=cc 1 _ c1;replace c2:=cc 2 _ c2;replace c3:=cc 3 _ c3;replace c4:=cc 4 _ c4;rw [Nat.add_zero] at c0;simp only [yac,yaa,yab] at d0 d1 d2;replace g4:=yay g4;clear cc;replace hp:=yay hp
 go_wp2_with fail
 refine fun w5 h5=>?_;replace L:=L.trans ((LeftW.of_sim hp.out.heap hp.out.outs).sim h5);have e5:w5.heap=_:=h5.heap.trans hp.out.heap;clear c0 c1 c2 c3 c4 d0 d1 d2 g4 h5 hp wp;clear e5 e4 k4;obtain rfl:=hR1.out;clear hR1;refine zao rm_xc (t:=false) rfl ?_;refine zbq rm_xc ?_;obtain rfl:=hR0.out;clear hR0;refine zae rm_xc fun R0 hR0=>?_;refine zbn zi6 (zab zaf (by kernel_rfl)) rfl (zaa Try.func16) rfl fun wp hp=>?_;have hw:=zq9 wp;obtain ⟨M,hM⟩:∃ M,wp.heap.size=M:=⟨_,rfl⟩;rw [hM] at hw;replace hM:=yay hM;unfold gpv at hw;replace hp:=yay hp
 go_wp2_with (go_at_call 20;refine hw.mono ?_;rintro e w' ⟨rfl,hG⟩;replace hG:=yay hG)
 refine fun w6 h6=>?_;obtain ⟨G1,L1⟩:=hG.out.gate hM.out;have hMw:w.heap.size≤M:=by rw [← hM.out,hp.out.heap];exact L.size
 have I:GL w M sG0 (fun b=>if b=M then .sh else .out) w6:=(GL.mk G1 ((L.trans (.of_sim hp.out.heap hp.out.outs)).trans L1) fun b hb=>if_neg (by omega)).sim h6.heap h6.outs;clear h6 hG hw hM hp G1 L1 L hMw wp;generalize (fun b=>if b=M then Owner.sh else .out)=own0 at I;obtain ⟨x1,x2,x3,x4,x5,x6,x7,x8⟩:=zxn;obtain rfl:=hR0.out;clear hR0;refine zae rm_xc fun R0 hR0=>?_;refine zae rm_xc fun R1 hR1=>?_;refine zdi 4 (by decide) (by decide) (zah (by kernel_rfl)) fun wp hp=>?_;simp only [yad,yae];replace hp:=yay hp
 go_wp2_with fail
 refine zaz rfl fun w7 h7=>?_;replace I:=I.sim (h7.heap.trans hp.out.heap) ⟨h7.outs.1.trans hp.out.outs.1,h7.outs.2.trans hp.out.outs.2⟩;clear h7 hp wp;unfold gpv at *;refine zav rm_xc rfl rfl (by decide) rfl Try.func73 (by kernel_rfl) (by kernel_rfl) ?_;walk_nrm;rw [show Value.pointer (some ⟨M,0,none⟩)=gpv M from rfl]
 refine zkf I.g (by constructor<;>decide) fun own8 w8 Ga La=>?_;replace I:GL w M (sG1) own8 w8:=I.step Ga La;clear Ga La;rw [x1];rw [Frame.finish_at];walk_nrm;unfold gpv;refine zb7 5 4 (by decide) (by decide) (zah (by kernel_rfl)) fun wp hp=>?_;simp only [yaf,yag,yad,yae];replace hp:=yay hp
 go_wp2_with fail
 refine zaz rfl fun w9 h9=>?_;replace I:=I.sim (h9.heap.trans hp.out.heap) ⟨h9.outs.1.trans hp.out.outs.1,h9.outs.2.trans hp.out.outs.2⟩;clear h9 hp wp;refine zav rm_xc rfl rfl (by decide) rfl Try.func73 (by kernel_rfl) (by kernel_rfl) ?_;walk_nrm;rw [show Value.pointer (some ⟨M,0,none⟩)=gpv M from rfl]
 refine zkf I.g (by constructor<;>decide) fun own10 w10 Ga La=>?_;replace I:GL w M (sG2) own10 w10:=I.step Ga La;clear Ga La;rw [x2];rw [Frame.finish_at];walk_nrm;unfold gpv;refine zb7 10 4 (by decide) (by decide) (zah (by kernel_rfl)) fun wp hp=>?_;simp only [yaf,yag,yad,yae];replace hp:=yay hp
 go_wp2_with fail
 refine zaz rfl fun w11 h11=>?_;replace I:=I.sim (h11.heap.trans hp.out.heap) ⟨h11.outs.1.trans hp.out.outs.1,h11.outs.2.trans hp.out.outs.2⟩;clear h11 hp wp;refine zav rm_xc rfl rfl (by decide) rfl Try.func73 (by kernel_rfl) (by kernel_rfl) ?_;walk_nrm;rw [show Value.pointer (some ⟨M,0,none⟩)=gpv M from rfl]
 refine zkf I.g (by constructor<;>decide) fun own12 w12 Ga La=>?_;replace I:GL w M (sG3) own12 w12:=I.step Ga La;clear Ga La;rw [x3];rw [Frame.finish_at];walk_nrm;unfold gpv;refine zb7 15 2 (by decide) (by decide) (zah (by kernel_rfl)) fun wp hp=>?_;simp only [yaf,yag,yad,yae];replace hp:=yay hp
 go_wp2_with fail
 refine zaz rfl fun w13 h13=>?_;replace I:=I.sim (h13.heap.trans hp.out.heap) ⟨h13.outs.1.trans hp.out.outs.1,h13.outs.2.trans hp.out.outs.2⟩;clear h13 hp wp;refine zad rm_xc ?_;obtain rfl:=hR1.out;clear hR1;refine zao rm_xc (t:=false) rfl ?_;refine zbq rm_xc ?_;obtain rfl:=hR0.out;clear hR0;refine zae rm_xc fun R0 hR0=>?_;refine zdi 1 (by decide) (by decide) (zah (by kernel_rfl)) fun wp hp=>?_;simp only [yad,yae];replace hp:=yay hp
 go_wp2_with fail
 refine zaz rfl fun w14 h14=>?_;replace I:=I.sim (h14.heap.trans hp.out.heap) ⟨h14.outs.1.trans hp.out.outs.1,h14.outs.2.trans hp.out.outs.2⟩;clear h14 hp wp;refine zav rm_xc rfl rfl (by decide) rfl Try.func74 (by kernel_rfl) (by kernel_rfl) ?_;walk_nrm;rw [show Value.pointer (some ⟨M,0,none⟩)=gpv M from rfl]
 refine zso I.g (by constructor<;>decide) fun own15 w15 Ga La=>?_;replace I:GL w M (sG3) own15 w15:=I.step Ga La;clear Ga La;rw [x4];rw [Frame.finish_at];walk_nrm;unfold gpv;refine zb7 2 5 (by decide) (by decide) (zah (by kernel_rfl)) fun wp hp=>?_;simp only [yaf,yag,yad,yae];replace hp:=yay hp
 go_wp2_with fail
 refine zaz rfl fun w16 h16=>?_;replace I:=I.sim (h16.heap.trans hp.out.heap) ⟨h16.outs.1.trans hp.out.outs.1,h16.outs.2.trans hp.out.outs.2⟩;clear h16 hp wp;refine zad rm_xc ?_;obtain rfl:=hR0.out;clear hR0;refine zae rm_xc fun R0 hR0=>?_;refine zdi 1 (by decide) (by decide) (zah (by kernel_rfl)) fun wp hp=>?_;simp only [yad,yae];replace hp:=yay hp
 go_wp2_with fail
 refine zaz rfl fun w17 h17=>?_;replace I:=I.sim (h17.heap.trans hp.out.heap) ⟨h17.outs.1.trans hp.out.outs.1,h17.outs.2.trans hp.out.outs.2⟩;clear h17 hp wp;refine zav rm_xc rfl rfl (by decide) rfl Try.func75 (by kernel_rfl) (by kernel_rfl) ?_;walk_nrm;rw [show Value.pointer (some ⟨M,0,none⟩)=gpv M from rfl]
 refine zrc I.g (by constructor<;>decide) (by constructor<;>decide) fun own18 w18 Ga La=>?_;replace I:GL w M (sG3) own18 w18:=I.step Ga La;clear Ga La;rw [x5];rw [Frame.finish_at];walk_nrm;unfold gpv;refine zb7 2 5 (by decide) (by decide) (zah (by kernel_rfl)) fun wp hp=>?_;simp only [yaf,yag,yad,yae];replace hp:=yay hp
 go_wp2_with fail
 refine zaz rfl fun w19 h19=>?_;replace I:=I.sim (h19.heap.trans hp.out.heap) ⟨h19.outs.1.trans hp.out.outs.1,h19.outs.2.trans hp.out.outs.2⟩;clear h19 hp wp;refine zad rm_xc ?_;obtain rfl:=hR0.out;clear hR0;refine zae rm_xc fun R0 hR0=>?_;refine zdi 1 (by decide) (by decide) (zah (by kernel_rfl)) fun wp hp=>?_;simp only [yad,yae];replace hp:=yay hp
 go_wp2_with fail
 refine zaz rfl fun w20 h20=>?_;replace I:=I.sim (h20.heap.trans hp.out.heap) ⟨h20.outs.1.trans hp.out.outs.1,h20.outs.2.trans hp.out.outs.2⟩;clear h20 hp wp;refine zav rm_xc rfl rfl (by decide) rfl Try.func75 (by kernel_rfl) (by kernel_rfl) ?_;walk_nrm;rw [show Value.pointer (some ⟨M,0,none⟩)=gpv M from rfl]
 refine zrc I.g (by constructor<;>decide) (by constructor<;>decide) fun own21 w21 Ga La=>?_;replace I:GL w M (sG3) own21 w21:=I.step Ga La;clear Ga La;rw [x6];rw [Frame.finish_at];walk_nrm;unfold gpv;refine zb7 2 5 (by decide) (by decide) (zah (by kernel_rfl)) fun wp hp=>?_;simp only [yaf,yag,yad,yae];replace hp:=yay hp
 go_wp2_with fail
 refine zaz rfl fun w22 h22=>?_;replace I:=I.sim (h22.heap.trans hp.out.heap) ⟨h22.outs.1.trans hp.out.outs.1,h22.outs.2.trans hp.out.outs.2⟩;clear h22 hp wp;refine zad rm_xc ?_;obtain rfl:=hR0.out;clear hR0;refine zae rm_xc fun R0 hR0=>?_;refine zdi 19 (by decide) (by decide) (zah (by kernel_rfl)) fun wp hp=>?_;simp only [yad,yae];replace hp:=yay hp
 go_wp2_with fail
 refine zaz rfl fun w23 h23=>?_;replace I:=I.sim (h23.heap.trans hp.out.heap) ⟨h23.outs.1.trans hp.out.outs.1,h23.outs.2.trans hp.out.outs.2⟩;clear h23 hp wp;refine zav rm_xc rfl rfl (by decide) rfl Try.func76 (by kernel_rfl) (by kernel_rfl) ?_;walk_nrm;rw [show Value.pointer (some ⟨M,0,none⟩)=gpv M from rfl]
 refine zlw I.g  fun own24 w24 Ga La=>?_;replace I:GL w M (sG4) own24 w24:=I.step Ga La;clear Ga La;rw [x7];rw [Frame.finish_at];walk_nrm;unfold gpv;refine zb7 20 4 (by decide) (by decide) (zah (by kernel_rfl)) fun wp hp=>?_;simp only [yaf,yag,yad,yae];replace hp:=yay hp
 go_wp2_with fail
 refine zaz rfl fun w25 h25=>?_;replace I:=I.sim (h25.heap.trans hp.out.heap) ⟨h25.outs.1.trans hp.out.outs.1,h25.outs.2.trans hp.out.outs.2⟩;clear h25 hp wp;refine zav rm_xc rfl rfl (by decide) rfl Try.func76 (by kernel_rfl) (by kernel_rfl) ?_;walk_nrm;rw [show Value.pointer (some ⟨M,0,none⟩)=gpv M from rfl]
 refine zlw I.g  fun own26 w26 Ga La=>?_;replace I:GL w M ((zhv sG4 3).2) own26 w26:=I.step Ga La;clear Ga La;rw [x8];rw [Frame.finish_at];walk_nrm;unfold gpv;refine zb7 25 3 (by decide) (by decide) (zah (by kernel_rfl)) fun wp hp=>?_;simp only [yaf,yag,yad,yae];replace hp:=yay hp
 go_wp2_with fail
 refine zaz rfl fun w27 h27=>?_;replace I:=I.sim (h27.heap.trans hp.out.heap) ⟨h27.outs.1.trans hp.out.outs.1,h27.outs.2.trans hp.out.outs.2⟩;clear h27 hp wp;refine zad rm_xc ?_;obtain rfl:=hR0.out;clear hR0;refine zct rm_xc ?_;refine za4 rm_xc (zaa Try.func16) (zbl _) (by rw [zcn];exact ⟨rfl,rfl,rfl,_,Try.func16,results_tmp rfl _ _ _⟩) ?_;exact h.out _ I.l
end
def zwd (v e:Int):Ans:=if e=0 then ⟨true,v,[]⟩ else ⟨false,e,[]⟩
structure Api {S:Type} (md:Md (SM S)) (gv:Value) where
 J:Int→Int→(Int→Fu (SM S))→Fu (SM S)
 V:Int→(Int→Fu (SM S))→Fu (SM S)
 T:Int→Int→(Int→Fu (SM S))→Fu (SM S)
 E:Int→(Int→Int→Fu (SM S))→Fu (SM S)
 I:(List Int→Fu (SM S))→Fu (SM S)
 M:Int→(Int→Int→Fu (SM S))→Fu (SM S)
 Y:Int→Int→(Bool→Int→Fu (SM S))→Fu (SM S)
 join:∀ {p a:Int} {κ A w₀ c cs},zd5 a→md.End A w₀ c cs→(∀ e,md.F (κ e) A w₀ (G (c.finish (.int .i64 e)) cs))→md.F (J p a κ) A w₀ (G (Frame.enter Try.prog 73 #[gv,md.sv,.int .i64 p,.int .i64 a] .normal) (c::cs))
 leave:∀ {p:Int} {κ A w₀ c cs},md.End A w₀ c cs→(∀ e,md.F (κ e) A w₀ (G (c.finish (.int .i64 e)) cs))→md.F (V p κ) A w₀ (G (Frame.enter Try.prog 76 #[gv,md.sv,.int .i64 p] .normal) (c::cs))
 set:∀ {p a:Int} {κ A w₀ c cs},zd5 a→md.End A w₀ c cs→(∀ e,md.F (κ e) A w₀ (G (c.finish (.int .i64 e)) cs))→md.F (T p a κ) A w₀ (G (Frame.enter Try.prog 27 #[gv,md.sv,.int .i64 p,.int .i64 a] .normal) (c::cs))
 get:∀ {p:Int} {κ A w₀ c cs},md.End A w₀ c cs→(∀ v e,md.F (κ v e) A w₀ (G (c.finish (.tuple #[.int .i64 v,.int .i64 e])) cs))→md.F (E p κ) A w₀ (G (Frame.enter Try.prog 85 #[gv,md.sv,.int .i64 p] .normal) (c::cs))
 list:∀ {κ A w₀ c cs},md.End A w₀ c cs→(∀ l v A₁ w₁,Less md.i A w₀ A₁ w₁→RowTh md.i w₁.own w₁.heap v l→(∀ b,zd0 v l b→A₁ b∧¬ A b)→l.length≤64→md.F (κ l) A₁ w₁ (G (c.finish v) cs))→md.F (I κ) A w₀ (G (Frame.enter Try.prog 86 #[gv,md.sv] .normal) (c::cs))
 least:∀ {n:Int} {κ A w₀ c cs},zd5 n→md.End A w₀ c cs→(∀ v p,md.F (κ v p) A w₀ (G (c.finish (.tuple #[.int .i64 v,.int .i64 p])) cs))→md.F (M n κ) A w₀ (G (Frame.enter Try.prog 74 #[gv,md.sv,.int .i64 n] .normal) (c::cs))
 may:∀ {q z:Int} {κ A w₀ c cs},zd5 q→zd5 z→md.End A w₀ c cs→(∀ t p,md.F (κ t p) A w₀ (G (c.finish (.tuple #[.bool t,.int .i64 p])) cs))→md.F (Y q z κ) A w₀ (G (Frame.enter Try.prog 75 #[gv,md.sv,.int .i64 q,.int .i64 z] .normal) (c::cs))
section
variable {S:Type} {md:Md (SM S)} {gv:Value} {lo:Nat} {A:Nat→Prop} {w₀:W0 (SM S)} {c:Frame} {cs:List Frame} {κ:Ans→Fu (SM S)} {o:OpD} {y:md.β} {own1:Nat→Owner} {w1:World} {m:SM S} {N:Nat} {x:Nat→Value} {R:List Item}
end
def callA {S:Type} {md:Md (SM S)} {gv:Value} (P:Api md gv) (o:OpD) (κ:Ans→Fu (SM S)):Fu (SM S) :=
 if o.kind=1 then P.J o.a o.b (fun e=>κ (zwd 0 e))
 else if o.kind=2 then P.V o.a (fun e=>κ (zwd 0 e))
 else if o.kind=3 then P.T o.a o.b (fun e=>κ (zwd 0 e))
 else if o.kind=4 then P.E o.a (fun n e=>κ (zwd n e))
 else if o.kind=5 then P.I (fun l=>κ ⟨true,0,l⟩)
 else if o.kind=6 then P.M o.a (fun n p=>κ ⟨true,n,[p]⟩)
 else if o.kind=7 then P.Y o.a o.b (fun t p=>κ ⟨t,p,[]⟩)
 else κ ⟨false,0,[]⟩
section
variable {S:Type} {md:Md (SM S)} {gv:Value} {lo:Nat}
end
section
variable {Q:Nat→SM GateS→Prop} {s:GateS}
end
section
variable {Z:Machine→Trace→Prop} {gb:Nat} {s:GateS} {own:Nat→Owner} {w:World} {c:Frame} {cs:List Frame}
end
section
variable {S:Type} {md:Md (SM S)} {A:Nat→Prop} {w₀:W0 (SM S)} {c:Frame} {cs:List Frame}
end
section
variable {Z:Machine→Trace→Prop} {w:World} {c:Frame} {cs:List Frame}
end
section
variable {gz gw:Nat} {s s':GateS} {oz ow oz' ow':Nat→Owner} {w w':World}
theorem GW.lt {gb:Nat} {own:Nat→Owner} (h:GW gb s own w) {b:Nat} (hb:own b ≠ .out):b < w.heap.size:=by
 rcases Nat.lt_or_ge b w.heap.size with z|z
 ·exact z
 ·exact absurd (h.new b z) hb
theorem GW.beside {g1 g2:Nat} {s1 s2:GateS} {o1 o2 o1':Nat→Owner} (h2:GW g2 s2 o2 w) (hd:∀ b,o1 b = .out∨o2 b = .out) (l:Left o1 o1' w w'):GW g2 s2 o2 w'∧∀ b,o1' b = .out∨o2 b = .out:=by
 refine ⟨h2.keep l.size fun b hb ho=>(l.same b hb ((hd b).resolve_right ho)).2,fun b=>?_⟩;by_cases ho:o2 b = .out
 ·exact .inr ho
 ·exact .inl (l.same b (h2.lt ho) ((hd b).resolve_right ho)).1
end
structure GT where
 ops:List OpD
 ans:List Ans
 at_:Nat
 pc:Int
 list:List Int
 ser:Int
 least:Int
 place:Int
structure GMc where
 L:List Int
 ser:Int
 N:Nat→Int
 T:Nat→GT
def GMc.setT (S:GMc) (i:Nat) (t:GT):GMc:={ S with T:=upd S.T i t }
theorem GMc.setT_T (S:GMc) (i:Nat) (t:GT):(S.setT i t).T i=t:=upd_same _ _ _
theorem znt {α:Type} (f:Nat→α) (i:Nat) (x y:α):upd (upd f i x) i y=upd f i y:=by
 funext j;by_cases h:j=i
 ·subst h;rw [upd_same,upd_same]
 ·rw [upd_ne _ _ h,upd_ne _ _ h,upd_ne _ _ h]
theorem zmj {α:Type} (f:Nat→α) (i:Nat):upd f i (f i)=f:=by
 funext j;by_cases h:j=i
 ·subst h;exact upd_same _ _ _
 ·exact upd_ne _ _ h
theorem GMc.setT_setT (S:GMc) (i:Nat) (t t':GT):(S.setT i t).setT i t'=S.setT i t':=by unfold GMc.setT;simp only [znt]
def tcV (vo va vl:Value) (i:Nat) (t:GT):List Value:=[vo,va,.int .i64 i,.int .i64 t.at_,.int .i64 t.pc,vl,.int .i64 t.ser,.int .i64 t.least,.int .i64 t.place]
structure TRow (e z tb n cap:Nat) (f:Nat→List Value) (w:World):Prop where
 ex:∃ cur,w.heap[tb]?=some (.cells cur e (0,0))∧n≤cap∧cap≤maxLen∧cur.size=cap * z∧∀ i,i < n→∀ k,k < z→cur[i * z+k]?=(f i)[k]?
section
variable {e z tb n cap:Nat} {f:Nat→List Value} {w w':World}
theorem TRow.cell (h:TRow e z tb n cap f w) {i k:Nat} (hi:i < n) (hk:k < z):w.cell? ⟨tb,i * z+k,none⟩=(f i)[k]?:=by
 obtain ⟨cur,h1,h2,h3,h4,h5⟩:=h.ex;rw [zac h1];exact h5 i hi k hk
theorem TRow.free (h:TRow e z tb n cap f w) (x:Nat):w.frozen? ⟨tb,x,none⟩=false:=by
 obtain ⟨cur,h1,_⟩:=h.ex;exact zat h1 x
theorem TRow.keep (h:TRow e z tb n cap f w) (hk:w'.heap[tb]?=w.heap[tb]?):TRow e z tb n cap f w':=by
 obtain ⟨cur,h1,h2⟩:=h.ex;exact ⟨cur,hk.trans h1,h2⟩
theorem TRow.put (h:TRow e z tb n cap f w) {i k:Nat} (hi:i < n) (hk:k < z) (hl:(f i).length=z) (v:Value):TRow e z tb n cap (upd f i ((f i).set k v)) (w.setCell ⟨tb,i * z+k,none⟩ v):=by
 obtain ⟨cur,h1,h2,h3,h4,h5⟩:=h.ex;have hlt:i * z+k < cur.size:=by
  rw [h4];have:(i+1) * z≤cap * z:=Nat.mul_le_mul_right _ (by omega);rw [Nat.add_mul] at this;omega
 refine ⟨_,zau h1 _ v,h2,h3,by simpa using h4,fun j hj m hm=>?_⟩;rw [Array.getElem?_setIfInBounds];by_cases q:i * z+k=j * z+m
 ·have hij:i=j:=by
   rcases Nat.lt_trichotomy i j with a|a|a
   ·have:(i+1) * z≤j * z:=Nat.mul_le_mul_right _ a;rw [Nat.add_mul] at this;omega
   ·exact a
   ·have:(j+1) * z≤i * z:=Nat.mul_le_mul_right _ a;rw [Nat.add_mul] at this;omega
  subst hij;obtain rfl:k=m:=by omega
  rw [if_pos rfl,if_pos hlt,upd_same,List.getElem?_set_self (by omega)]
 ·rw [if_neg q];by_cases hij:j=i
  ·subst hij;rw [upd_same,List.getElem?_set_ne (by omega)];exact h5 j hj m hm
  ·rw [upd_ne _ _ hij];exact h5 j hj m hm
end
def LstN (nb:Nat) (w:World) (u:Value) (l:List Int):Prop :=
 ∃ a cap,u = .slice a l.length cap∧l.length≤cap∧(a=none→cap=0)∧(l≠[]→∃ b o c,a=some ⟨b,o,none⟩∧b≠nb∧w.heap[b]?=some (.cells c 2 (0,0))∧∀ j x,l[j]?=some x→c[o+j]?=some (.int .i64 x))
theorem LstN.keep {nb:Nat} {w w':World} {u:Value} {l:List Int} (h:LstN nb w u l) (hk:∀ b c,b≠nb→w.heap[b]?=some (.cells c 2 (0,0))→w'.heap[b]?=some (.cells c 2 (0,0))):LstN nb w' u l:=by
 obtain ⟨a,cap,e,hc,h0,q⟩:=h;exact ⟨a,cap,e,hc,h0,fun hne=>by
  obtain ⟨b,o,c,e1,e2,e3,e4⟩:=q hne;exact ⟨b,o,c,e1,e2,hk b c e2 e3,e4⟩⟩
theorem LstN.nil (nb:Nat) (w:World):LstN nb w (.slice none 0 0) []:=⟨none,0,rfl,yax _,fun _=>rfl,fun h=>absurd rfl h⟩
def AnsM (base nb:Nat) (w:World) (v:Value) (l:List Ans):Prop :=
 ∃ vs:List Value,vs.length=l.length∧w.ownsRow base 42 3 v l.length (zfl l vs)∧∀ (k:Nat) (r:Ans) (u:Value),l[k]?=some r→vs[k]?=some u→LstN nb w u r.l
def zsz (w0:World) (v:Value) (L:List OpD):Prop:=∃ ao cap,v = .slice ao L.length cap∧OpsIn w0 ao L.length cap L
structure MK where
 w0:World
 base:Nat
 mb:Nat
 nb:Nat
 tb:Nat
 n:Nat
 cN:Nat
 cap:Nat
 vo:Nat→Value
structure MV where
 vL:Value
 va:Nat→Value
 vl:Nat→Value
def KeepM (nb:Nat) (w w':World):Prop:=∀ (b:Nat) (c:Array Value) (t:TypeId),w.heap[b]?=some (Obj.cells c t (0,0))→t≠233→t≠235→t≠42→b≠nb→w'.heap[b]?=some (Obj.cells c t (0,0))
structure MMem (K:MK) (V:MV) (S:GMc) (w:World):Prop where
 mach:w.heap[K.mb]?=some (.cells #[V.vL,.int .i64 S.ser,.slice (some ⟨K.nb,0,none⟩) 64 K.cN,.slice (some ⟨K.tb,0,none⟩) K.n K.cap] 233 (0,0))
 num:∃ c,w.heap[K.nb]?=some (.cells c 2 (0,0))∧64≤c.size∧∀ j,j < 64→c[j]?=some (.int .i64 (S.N j))
 trow:TRow 235 9 K.tb K.n K.cap (fun i=>tcV (K.vo i) (V.va i) (V.vl i) i (S.T i)) w
 lst:LstN K.nb w V.vL S.L
 ans:∀ i,i < K.n→AnsM K.base K.nb w (V.va i) (S.T i).ans
 vls:∀ i,i < K.n→LstN K.nb w (V.vl i) (S.T i).list
 inj:∀ i j,i < K.n→j < K.n→i≠j→∀ g,(V.va i).ownBlock=some g→(V.va j).ownBlock≠some g
 ops:∀ i,i < K.n→zsz K.w0 (K.vo i) (S.T i).ops
 low:Below K.base K.w0 w
 lo:K.base≤K.mb∧K.base≤K.nb∧K.base≤K.tb
 bs:K.w0.heap.size=K.base
 nn:K.n≤64
section
variable {nb:Nat} {w w' w'':World}
theorem KeepM.refl:KeepM nb w w:=fun _ _ _ h _ _ _ _=>h
theorem KeepM.trans (h:KeepM nb w w') (k:KeepM nb w' w''):KeepM nb w w'':=fun b c t hb h1 h2 h3 h4=>k b c t (h b c t hb h1 h2 h3 h4) h1 h2 h3 h4
theorem KeepM.row (h:KeepM nb w w') {B e sz n:Nat} {v:Value} {xs:List Value} (hr:w.ownsRow B e sz v n xs) (h1:e≠233) (h2:e≠235) (h3:e≠42) (h4:e≠2) (hn:∀ c t,w.heap[nb]?=some (.cells c t (0,0))→t=2):w'.ownsRow B e sz v n xs :=
 zal hr fun g o hg hh=>by
  obtain ⟨cc,hcc⟩:=zak hr hg;rw [← hh,hcc];exact h g _ _ hcc h1 h2 h3 fun z=>h4 (hn _ _ (z▸hcc))
theorem KeepM.lst (h:KeepM nb w w') {u:Value} {l:List Int} (hl:LstN nb w u l):LstN nb w' u l:=hl.keep fun b c hb hc=>h b c 2 hc (by decide) (by decide) (by decide) hb
theorem KeepM.alloc (h:KeepM nb w w') (o:Obj):KeepM nb w (w'.alloc o):=fun b c t hb h1 h2 h3 h4=>by
 have:=h b c t hb h1 h2 h3 h4;exact (Below.heap_alloc _ _ _ (yah.1 this).1).trans this
end
theorem AnsM.keep {base nb:Nat} {w w':World} {v:Value} {l:List Ans} (h:AnsM base nb w v l) (hk:KeepM nb w w') (hb:∀ g,v.ownBlock=some g→w'.heap[g]?=w.heap[g]?):AnsM base nb w' v l:=by
 obtain ⟨vs,h1,h2,h3⟩:=h;exact ⟨vs,h1,zal h2 fun g o hg hh=>(hb g hg).trans hh,fun k r u hr hu=>hk.lst (h3 k r u hr hu)⟩
section
variable {K:MK} {V:MV} {S:GMc} {w w':World}
theorem MMem.size (h:MMem K V S w):K.base≤w.heap.size:=by have:=h.low.size;have:=h.bs;omega
theorem MMem.mbt (h:MMem K V S w):K.mb≠K.nb∧K.mb≠K.tb∧K.nb≠K.tb:=by
 obtain ⟨c,h1,_⟩:=h.num;obtain ⟨cur,h2,_⟩:=h.trow.ex;refine ⟨fun z=>?_,fun z=>?_,fun z=>?_⟩
 ·have:=h.mach;rw [z,h1] at this;simp at this
 ·have:=h.mach;rw [z,h2] at this;simp at this
 ·rw [z,h2] at h1;simp at h1
theorem MMem.ansb (h:MMem K V S w) {i:Nat} (hi:i < K.n) {g:Nat} (hg:(V.va i).ownBlock=some g):g≠K.mb∧g≠K.nb∧g≠K.tb:=by
 obtain ⟨vs,_,h2,_⟩:=h.ans i hi;obtain ⟨cc,hcc⟩:=zak h2 hg;obtain ⟨c,h1,_⟩:=h.num;obtain ⟨cur,h3,_⟩:=h.trow.ex;refine ⟨fun z=>?_,fun z=>?_,fun z=>?_⟩
 ·have:=h.mach;rw [← z,hcc] at this;simp at this
 ·rw [← z,hcc] at h1;simp at h1
 ·rw [← z,hcc] at h3;simp at h3
theorem MMem.other (h:MMem K V S w) (hk:KeepM K.nb w w') (h1:w'.heap[K.mb]?=w.heap[K.mb]?) (h2:w'.heap[K.nb]?=w.heap[K.nb]?) (h3:w'.heap[K.tb]?=w.heap[K.tb]?) (h4:∀ i,i < K.n→∀ g,(V.va i).ownBlock=some g→w'.heap[g]?=w.heap[g]?) (hl:Below K.base K.w0 w'):MMem K V S w':=by
 obtain ⟨c,n1,n2⟩:=h.num;exact ⟨h1.trans h.mach,⟨c,h2.trans n1,n2⟩,h.trow.keep h3,hk.lst h.lst,fun i hi=>(h.ans i hi).keep hk (h4 i hi),fun i hi=>hk.lst (h.vls i hi),h.inj,h.ops,hl,h.lo,h.bs,h.nn⟩
theorem MMem.below (h:MMem K V S w) {N:Nat} (hb:Below N w w') (hN:w.heap.size=N):MMem K V S w'∧KeepM K.nb w w':=by
 have hk:KeepM K.nb w w':=fun b c t hb' _ _ _ _=>(hb.block b (by rw [← hN];exact (yah.1 hb').1)).trans hb';have same:∀ {b:Nat} {c:Array Value} {t:TypeId},w.heap[b]?=some (.cells c t (0,0))→w'.heap[b]?=w.heap[b]?:=fun {b c t} hb'=>hb.block b (by rw [← hN];exact (yah.1 hb').1);obtain ⟨c,n1,_⟩:=h.num;obtain ⟨cur,t1,_⟩:=h.trow.ex;refine ⟨h.other hk (same h.mach) (same n1) (same t1) (fun i hi g hg=>?_) (h.low.trans (hb.mono (by have:=h.size;omega))),hk⟩;obtain ⟨vs,_,h2,_⟩:=h.ans i hi;obtain ⟨cc,hcc⟩:=zak h2 hg;exact same hcc
theorem MMem.drew (h:MMem K V S w):MMem K V S w.drew :=
 ⟨h.mach,h.num,⟨h.trow.ex⟩,h.lst,fun i hi=>let ⟨vs,a,b,c⟩:=h.ans i hi;⟨vs,a,b,c⟩,h.vls,h.inj,h.ops,h.low.drew,h.lo,h.bs,h.nn⟩
theorem MMem.alloc (h:MMem K V S w) (o:Obj):MMem K V S (w.alloc o):=(h.below ((Below.refl _ _).alloc (yax _) o) rfl).1
theorem MMem.setT (h:MMem K V S w) {i:Nat} (hi:i < K.n) {k:Nat} (hk:k < 9) (v vl':Value) (t':GT) (hc:(tcV (K.vo i) (V.va i) (V.vl i) i (S.T i)).set k v=tcV (K.vo i) (V.va i) vl' i t') (ho:t'.ops=(S.T i).ops) (ha:t'.ans=(S.T i).ans) (hl:LstN K.nb w vl' t'.list) :
  MMem K { V with vl:=upd V.vl i vl' } (S.setT i t') (w.setCell ⟨K.tb,i * 9+k,none⟩ v)∧KeepM K.nb w (w.setCell ⟨K.tb,i * 9+k,none⟩ v):=by
 obtain ⟨m1,m2,m3⟩:=h.mbt;obtain ⟨cur,t1,_⟩:=h.trow.ex;have off:∀ b,b≠K.tb→(w.setCell ⟨K.tb,i * 9+k,none⟩ v).heap[b]?=w.heap[b]?:=fun b hb=>Below.heap_setCell _ _ _ _ hb;have hkp:KeepM K.nb w (w.setCell ⟨K.tb,i * 9+k,none⟩ v):=fun b c t hb _ h2 _ _=>(off b fun z=>by rw [z,t1] at hb;simp at hb;exact h2 hb.2.symm).trans hb;obtain ⟨c,n1,n2⟩:=h.num;refine ⟨⟨(off _ m2).trans h.mach,⟨c,(off _ m3).trans n1,n2⟩,?_,hkp.lst h.lst,fun j hj=>?_,fun j hj=>?_,h.inj,fun j hj=>?_,h.low.setCell h.lo.2.2 _,h.lo,h.bs,h.nn⟩,hkp⟩
 ·have:=h.trow.put hi hk rfl v;refine ⟨?_⟩;obtain ⟨cur',q1,q2,q3,q4,q5⟩:=this.ex;refine ⟨cur',q1,q2,q3,q4,fun j hj m hm=>(q5 j hj m hm).trans ?_⟩;by_cases e:j=i
  ·subst e;simp only [upd_same,GMc.setT];rw [hc]
  ·simp only [upd_ne _ _ e,GMc.setT]
 ·have h0:AnsM K.base K.nb (w.setCell ⟨K.tb,i * 9+k,none⟩ v) (V.va j) (S.T j).ans:=(h.ans j hj).keep hkp fun g hg=>off g (h.ansb hj hg).2.2;by_cases e:j=i
  ·subst e;show AnsM _ _ _ _ ((upd S.T j t') j).ans;rw [upd_same,ha];exact h0
  ·show AnsM _ _ _ _ ((upd S.T i t') j).ans;rw [upd_ne _ _ e];exact h0
 ·by_cases e:j=i
  ·subst e;show LstN _ _ (upd V.vl j vl' j) ((upd S.T j t') j).list;rw [upd_same,upd_same];exact hkp.lst hl
  ·show LstN _ _ (upd V.vl i vl' j) ((upd S.T i t') j).list;rw [upd_ne _ _ e,upd_ne _ _ e];exact hkp.lst (h.vls j hj)
 ·by_cases e:j=i
  ·subst e;show zsz _ _ ((upd S.T j t') j).ops;rw [upd_same,ho];exact h.ops j hj
  ·show zsz _ _ ((upd S.T i t') j).ops;rw [upd_ne _ _ e];exact h.ops j hj
theorem MMem.cellM (h:MMem K V S w) (k:Nat):w.cell? ⟨K.mb,k,none⟩=(#[V.vL,.int .i64 S.ser,.slice (some ⟨K.nb,0,none⟩) 64 K.cN,.slice (some ⟨K.tb,0,none⟩) K.n K.cap]:Array Value)[k]?:=zac h.mach k
theorem MMem.setN (h:MMem K V S w) {j:Nat} (hj:j < 64) (v:Int):MMem K V { S with N:=upd S.N j v } (w.setCell ⟨K.nb,j,none⟩ (.int .i64 v))∧KeepM K.nb w (w.setCell ⟨K.nb,j,none⟩ (.int .i64 v)):=by
 obtain ⟨m1,m2,m3⟩:=h.mbt;have off:∀ b,b≠K.nb→(w.setCell ⟨K.nb,j,none⟩ (.int .i64 v)).heap[b]?=w.heap[b]?:=fun b hb=>Below.heap_setCell _ _ _ _ hb;have hkp:KeepM K.nb w (w.setCell ⟨K.nb,j,none⟩ (.int .i64 v)):=fun b c t hb _ _ _ h4=>(off b h4).trans hb;obtain ⟨c,n1,n2,n3⟩:=h.num;refine ⟨⟨(off _ m1).trans h.mach,⟨_,zau n1 _ _,by simpa using n2,fun i hi=>?_⟩,h.trow.keep (off _ (Ne.symm m3)),hkp.lst h.lst,fun i hi=>(h.ans i hi).keep hkp fun g hg=>off g (h.ansb hi hg).2.1,fun i hi=>hkp.lst (h.vls i hi),h.inj,h.ops,h.low.setCell h.lo.2.1 _,h.lo,h.bs,h.nn⟩,hkp⟩;rw [Array.getElem?_setIfInBounds];by_cases e:j=i
 ·subst e;rw [if_pos rfl,if_pos (by omega)];simp only [upd_same]
 ·rw [if_neg e,n3 i hi];simp only [upd_ne _ _ (Ne.symm e)]
theorem MMem.answered (h:MMem K V S w) {i:Nat} (hi:i < K.n) {r:Ans} {u v':Value} {w2:World} (hu:LstN K.nb w u r.l) {vs:List Value} (hvs:vs.length=(S.T i).ans.length) (hlst:∀ (k:Nat) (r:Ans) (u:Value),(S.T i).ans[k]?=some r→vs[k]?=some u→LstN K.nb w u r.l)
  (ho:w2.ownsRow K.base 42 3 v' ((S.T i).ans.length+1) (zfl (S.T i).ans vs++zsv r u)) (hg:w.grownBy w2 (V.va i).ownBlock) (hsh:∀ g,v'.ownBlock=some g→(V.va i).ownBlock=some g∨w.heap.size≤g) :
  w2.heap[K.mb]?=w.heap[K.mb]?∧(∀ k,k < 9→w2.cell? ⟨K.tb,i * 9+k,none⟩=w.cell? ⟨K.tb,i * 9+k,none⟩)∧(w2.frozen? ⟨K.tb,i * 9+1,none⟩=false) ∧
  MMem K { V with va:=upd V.va i v' } (S.setT i { S.T i with ans:=(S.T i).ans++[r] }) (w2.setCell ⟨K.tb,i * 9+1,none⟩ v')∧KeepM K.nb w (w2.setCell ⟨K.tb,i * 9+1,none⟩ v'):=by
 obtain ⟨m1,m2,m3⟩:=h.mbt;obtain ⟨cur,t1,t2⟩:=h.trow.ex;obtain ⟨c,n1,n2⟩:=h.num;have kt:∀ {b:Nat} {cs:Array Value} {e:TypeId},w.heap[b]?=some (.cells cs e (0,0))→e≠42→w2.heap[b]?=some (.cells cs e (0,0)):=fun {b cs e} hb he =>
  (hg.block b (yah.1 hb).1 fun z=>by
   obtain ⟨vs0,_,h2,_⟩:=h.ans i hi;obtain ⟨cc,hcc⟩:=zak h2 z.symm;rw [hb] at hcc;simp at hcc;exact he hcc.2).trans hb
 have tt:w2.heap[K.tb]?=w.heap[K.tb]?:=(kt t1 (by decide)).trans t1.symm;have off:∀ b,b≠K.tb→(w2.setCell ⟨K.tb,i * 9+1,none⟩ v').heap[b]?=w2.heap[b]?:=fun b hb=>Below.heap_setCell _ _ _ _ hb;have hkp:KeepM K.nb w (w2.setCell ⟨K.tb,i * 9+1,none⟩ v'):=fun b c t hb _ h2 h3 _=>(off b fun z=>by rw [z,t1] at hb;simp at hb;exact h2 hb.2.symm).trans (kt hb h3);have hrow2:TRow 235 9 K.tb K.n K.cap (fun i=>tcV (K.vo i) (V.va i) (V.vl i) i (S.T i)) w2:=h.trow.keep tt;refine ⟨(kt h.mach (by decide)).trans h.mach.symm,fun k hk=>(hrow2.cell hi hk).trans (h.trow.cell hi hk).symm,hrow2.free _,⟨(off _ m2).trans (kt h.mach (by decide)),⟨c,(off _ m3).trans (kt n1 (by decide)),n2⟩,?_,hkp.lst h.lst,fun j hj=>?_,fun j hj=>?_,fun j k hj hk hjk g h1 h2=>?_,fun j hj=>?_,?_,h.lo,h.bs,h.nn⟩,hkp⟩
 ·have:=hrow2.put hi (k:=1) (by decide) rfl v';refine ⟨?_⟩;obtain ⟨cur',q1,q2,q3,q4,q5⟩:=this.ex;refine ⟨cur',q1,q2,q3,q4,fun j hj m hm=>(q5 j hj m hm).trans ?_⟩;by_cases e:j=i
  ·subst e;simp only [upd_same,GMc.setT,tcV,yam,yal]
  ·simp only [upd_ne _ _ e,GMc.setT]
 ·by_cases e:j=i
  ·subst e;show AnsM _ _ _ (upd V.va j v' j) ((upd S.T j _) j).ans;rw [upd_same,upd_same];refine ⟨vs++[u],by simp [hvs],?_,fun k r' u' hr hu'=>?_⟩
   ·show World.ownsRow _ _ _ _ _ ((S.T j).ans++[r]).length (zfl ((S.T j).ans++[r]) (vs++[u]));rw [zl2 hvs,List.length_append];exact zal ho fun g o hg' hh=>(off g fun z=>by
     obtain ⟨cc,hcc⟩:=zak ho hg';rw [z,kt t1 (by decide)] at hcc;simp at hcc).trans hh
   ·replace hr:((S.T j).ans++[r])[k]?=some r':=hr;by_cases hk:k < (S.T j).ans.length
    ·rw [List.getElem?_append_left hk] at hr;rw [List.getElem?_append_left (by omega)] at hu';exact hkp.lst (hlst k r' u' hr hu')
    ·have hk2:k=(S.T j).ans.length:=by
      have:=(yai.1 hr).1;simp at this;omega
     subst hk2;rw [List.getElem?_append_right (yax _)] at hr;rw [← hvs,List.getElem?_append_right (yax _)] at hu';simp at hr hu';subst hr hu';exact hkp.lst hu
  ·show AnsM _ _ _ (upd V.va i v' j) ((upd S.T i _) j).ans;rw [upd_ne _ _ e,upd_ne _ _ e];refine (h.ans j hj).keep hkp fun g hg'=>?_;obtain ⟨vs0,_,h2,_⟩:=h.ans j hj;obtain ⟨cc,hcc⟩:=zak h2 hg';have hlt:=(yah.1 hcc).1;exact (off g (h.ansb hj hg').2.2).trans (hg.block g hlt fun z=>h.inj j i hj hi e g hg' z.symm)
 ·show LstN _ _ (V.vl j) ((upd S.T i _) j).list;by_cases e:j=i
  ·subst e;rw [upd_same];exact hkp.lst (h.vls j hj)
  ·rw [upd_ne _ _ e];exact hkp.lst (h.vls j hj)
 ·have key:∀ {a b:Nat},a < K.n→b < K.n→a≠b→b=i→∀ g,(V.va a).ownBlock=some g→v'.ownBlock≠some g:=fun {a b} ha hb hab hbi g h1 h2=>by
   obtain ⟨vs0,_,h3,_⟩:=h.ans a ha;obtain ⟨cc,hcc⟩:=zak h3 h1;have hlt:=(yah.1 hcc).1;rcases hsh g h2 with q|q
   ·exact h.inj a i ha hi (hbi▸hab) g h1 q
   ·omega
  by_cases e:j=i
  ·subst e;simp only [upd_same,upd_ne _ _ (Ne.symm hjk)] at h1 h2;exact key hk hj (Ne.symm hjk) rfl g h2 h1
  ·simp only [upd_ne _ _ e] at h1;by_cases e2:k=i
   ·subst e2;simp only [upd_same] at h2;exact key hj hk hjk rfl g h1 h2
   ·simp only [upd_ne _ _ e2] at h2;exact h.inj j k hj hk hjk g h1 h2
 ·show zsz _ _ ((upd S.T i _) j).ops;by_cases e:j=i
  ·subst e;rw [upd_same];exact h.ops j hj
  ·rw [upd_ne _ _ e];exact h.ops j hj
 ·have hb:=h.low;have hlo:=h.lo;refine (Below.setCell ?_ hlo.2.2 _);refine ⟨hg.os.trans hb.os,hg.tape.trans hb.tape,hg.output.trans hb.output,Nat.le_trans hb.size hg.size,fun b hlt=>(hg.block b (by have:=h.size;omega) fun z=>?_).trans (hb.block b hlt)⟩;obtain ⟨vs0,_,h2,_⟩:=h.ans i hi;have:=(zax h2 z.symm).1;omega
end
section
variable {M:Type} {k j:Nat} {p q r:M×Co M} {κ:Fu M} {m:M}
end
section
variable {s:GateS} {an:Nat→List Ans} {p a:Int}
end
section
variable {M:Type} {mo:Nat}
end
section
variable {P:Program} {D:Nat→Option (Nat×Nat)} {main:Bool} {K:World→Prop} {Still:Loc→Prop} {Inb:Nat→Option Seat} {GO:Goroutine→World→Prop} {b:Frame} {a:Act} {k:List Item} {cs:List Frame} {w:World} {ops:Array Oper}
theorem zlr (I:Array Bool→Act→World→Prop) (hend:∀ listed a w,listed.size=ops.size→Region.ready .any ops listed=[]→I listed a w→GO (G (b.at a (.inRegion ops []::k)) cs) w)
  (hstep:∀ listed i,listed.size=ops.size→i∈Region.ready .any ops listed→∀ a w (r:List Nat),I listed a w→(∀ a' w',I (listed.setIfInBounds i true) a' w'→GO (G (b.at a' (.inRegion ops r::k)) cs) w')→GO (G (b.at a (.inRegion ops (i::r)::k)) cs) w) :
  ∀ (g:Nat) (listed:Array Bool) (r:List Nat),listed.size=ops.size→unl listed≤g→r∈zdd .any ops g listed→∀ a w,I listed a w→GO (G (b.at a (.inRegion ops r::k)) cs) w
 | 0,listed,r,hs,hu,hr,a,w,hI=>by
  obtain rfl:r=[]:=by simpa [zdd] using hr
  exact hend _ _ _ hs (zt3 (by omega)) hI
 | g+1,listed,r,hs,hu,hr,a,w,hI=>by
  unfold zdd at hr;cases hrd:Region.ready .any ops listed with
  | nil =>
   rw [hrd] at hr;obtain rfl:r=[]:=by simpa using hr
   exact hend _ _ _ hs hrd hI
  | cons i0 rs =>
   rw [hrd] at hr;simp only at hr;obtain ⟨i,hi,hr⟩:=List.mem_flatMap.1 hr;obtain ⟨r',hr',rfl⟩:=List.mem_map.1 hr;rw [← hrd] at hi;have hun:=zmk (mem_ready.1 hi).1;exact hstep _ _ hs hi _ _ _ hI fun a' w' hI'=>zlr I hend hstep g _ _ (by simpa using hs) (by omega) hr' _ _ hI'
end
theorem zw1 {P:Program} {Z:Machine→Trace→Prop} {b:Frame} {a:Act} {k:List Item} {cs:List Frame} {w:World} {ops:Array Oper} {id:Nat} (hm:P.follows .mixedOrders=true) (I:Array Bool→Act→World→Prop)
  (h0:I (Array.replicate ops.size false) a w) (hend:∀ listed a w,listed.size=ops.size→Region.ready .any ops listed=[]→I listed a w→RM P Z (G (b.at a (.inRegion ops []::k)) cs) w)
  (hstep:∀ listed i,listed.size=ops.size→i∈Region.ready .any ops listed→∀ a w (r:List Nat),I listed a w→(∀ a' w',I (listed.setIfInBounds i true) a' w'→RM P Z (G (b.at a' (.inRegion ops r::k)) cs) w')→RM P Z (G (b.at a (.inRegion ops (i::r)::k)) cs) w) :
  RM P Z (G (b.at a (.code (.region id ops true)::k)) cs) w :=
 zs5 rm_xc hm (zbl w) fun r hr=>zlr I hend hstep _ _ r (by simp) (by
  unfold unl;exact Nat.le_trans (List.countP_le_length) (by simp)) hr a w h0
def Low (w w':World):Prop:=w.heap.size≤w'.heap.size∧(∀ b,b < w.heap.size→w'.heap[b]?=w.heap[b]?)∧w'.os=w.os∧w'.output=w.output
theorem Low.refl (w:World):Low w w:=⟨yax _,fun _ _=>rfl,rfl,rfl⟩
theorem Low.trans {a b c:World} (h:Low a b) (k:Low b c):Low a c:=⟨Nat.le_trans h.1 k.1,fun x hx=>(k.2.1 x (Nat.lt_of_lt_of_le hx h.1)).trans (h.2.1 x hx),k.2.2.1.trans h.2.2.1,k.2.2.2.trans h.2.2.2⟩
theorem Low.re {w w':World} {τ:Nat→Question→Nat} {d:Nat} (h:Low (re τ d w) w'):Low w w':=h
theorem Low.sim {w w' wp:World} (h:Low wp w') (hp:Sim wp w):Low w w':=⟨by rw [← hp.heap];exact h.1,fun b hb=>by rw [← hp.heap] at hb ⊢;exact h.2.1 b hb,h.2.2.1.trans hp.outs.1,h.2.2.2.trans hp.outs.2⟩
theorem LeftW.low {w w':World} (h:LeftW w w'):Low w w':=⟨h.size,h.same,h.outs⟩
theorem Low.left {w w':World} (h:Low w w'):LeftW w w':=⟨h.2.1,h.1,h.2.2⟩
end Go.Proofs.Ytofacoojpgkbiaa
