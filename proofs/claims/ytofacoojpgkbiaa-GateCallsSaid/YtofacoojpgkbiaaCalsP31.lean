/-
  A part of a proof. No condition of its own.
-/
import Derived.Test.YtofacoojpgkbiaaCalsP30
set_option linter.unusedVariables false
set_option maxHeartbeats 8000000
set_option linter.unusedSimpArgs false
namespace Go.Proofs.Ytofacoojpgkbiaa
open Go.Conc Go.RowKit
open Go.ConcN (upd upd_ne upd_same)
set_option maxRecDepth 100000
section
variable {K:MK} {V:MV} {S:GMc} {w w':World} {vT:Value} {i:Nat}
theorem MPre.keepT (h:MPre K V S vT w) (hk:∀ (b:Nat) (c:Array Value) (t:TypeId),w.heap[b]?=some (Obj.cells c t (0,0))→t=233∨t=235∨t=42∨t=2→w'.heap[b]?=some (Obj.cells c t (0,0))) (hl:Below K.base K.w0 w'):MPre K V S vT w':=by
 obtain ⟨c,n1,n2⟩:=h.num;obtain ⟨xs,hr,hx⟩:=h.row;refine ⟨hk _ _ _ h.mach (by simp),⟨c,hk _ _ _ n1 (by simp),n2⟩,⟨xs,zar hr fun g o hg hh=>?_,hx⟩,h.lst.keep fun b c _ hb=>hk _ _ _ hb (by simp),fun i hi=>?_,fun i hi=>(h.vls i hi).keep fun b c _ hb=>hk _ _ _ hb (by simp),h.inj,h.ops,hl,h.lo,h.bs,h.nn⟩
 ·obtain ⟨cc,hcc⟩:=zal hr hg;rw [← hh,hcc];exact hk _ _ _ hcc (by simp)
 ·obtain ⟨vs,a,b,c⟩:=h.ans i hi;refine ⟨vs,a,zar b fun g o hg hh=>?_,fun k r u hr hu=>(c k r u hr hu).keep fun b c _ hb=>hk _ _ _ hb (by simp)⟩;obtain ⟨cc,hcc⟩:=zal b hg;rw [← hh,hcc];exact hk _ _ _ hcc (by simp)
theorem MPre.below (h:MPre K V S vT w) {N:Nat} (hb:Below N w w') (hN:w.heap.size=N):MPre K V S vT w' :=
 h.keepT (fun b c t hh _=>(hb.block b (by rw [← hN];exact (yah.1 hh).1)).trans hh) (h.low.trans (hb.mono (by have:=h.size;omega)))
theorem MPre.cellM (h:MPre K V S vT w) (k:Nat):w.cell? ⟨K.mb,k,none⟩=(#[V.vL,.int .i64 S.ser,.slice (some ⟨K.nb,0,none⟩) 64 K.cN,vT]:Array Value)[k]?:=zac h.mach k
theorem zud (h:MPre K V S vT w):Calls Try.prog 140 #[.pointer (some ⟨K.mb,0,none⟩)] w fun e w'=>e = .returned (.bool (zfc S K.n))∧w'=w:=by
 obtain ⟨xs,hr,_⟩:=id h.row;obtain ⟨tp,tc,rfl⟩:=zbg hr;have m3:=h.cellM 3;have hn:=h.nn;simp only [yac,yaa,yab] at m3;replace h:=yay h;replace hr:=yay hr;go_enter Try.func140,Try.ntmps140
 go_wp2_with fail
 go_loopw [3] (fun iv wr=>∃ j:Nat,j≤K.n∧iv = .int .i64 j∧Hid (∀ k,k < j→¬ 0 < (S.T k).pc)∧wr=w) (fun iv _=>K.n - (intOf iv).toNat)
 case atStart=>exact ⟨0,by omega,rfl,yay (fun k hk=>by omega),rfl⟩
 case round =>
  obtain ⟨j,hj,rfl,HP,rfl⟩:=hrel;by_cases hlt:j < K.n
  ·have hlt':(j:Int) < (K.n:Int):=by omega
   have e2:IntKind.i64.wrap ((j:Int)+1)=((j+1:Nat):Int):=by rw [IntKind.wrap_i64];omega
   obtain ⟨tb,cap,e,hm⟩:=h.out.mem (by omega);have t4:=hm.cellT hlt (k:=4) (by decide);simp only [tcV,yaa,yab] at t4;replace hm:=yay hm;injection e with e3 e4 e5;subst e3;clear e4 e5;by_cases hp:0 < (S.T j).pc
   ·have d1:decide (0 < (S.T j).pc)=true:=decide_eq_true hp;have hm:=yay (zmr hlt hp);replace hp:=yay hp
    go_wp2_with fail
    go_ret
    exact ⟨by rw [hm.out];rfl,rfl⟩
   ·have d1:decide (0 < (S.T j).pc)=false:=decide_eq_false hp;replace hp:=yay hp
    go_wp2_with fail
    refine ⟨⟨j+1,by omega,by rw [Int.natCast_add];rfl,yay fun k hk=>?_,by first|exact rfl|exact trivial⟩,by simp [intOf];omega⟩;by_cases e:k < j
    ·exact HP.out k e
    ·obtain rfl:k=j:=by omega
     exact hp.out
  ·obtain rfl:j=K.n:=by omega
   have hm:=yay (zq8 HP.out)
   go_wp2_with fail
   go_ret
   exact ⟨by rw [hm.out];rfl,rfl⟩
theorem MPre.srcN (h:MPre K V S vT w):zjo w (.slice (some ⟨K.nb,0,none⟩) 64 K.cN) 64 (zaw (zdq S.N 64)):=by
 obtain ⟨c,n1,n2,n3⟩:=h.num;refine ⟨by simp [zaw,zdq],fun v hv=>?_,.inr ⟨_,K.cN,rfl,fun j v hj=>?_⟩⟩
 ·obtain ⟨x,_,rfl⟩:=List.mem_map.1 hv;rfl
 ·have hlt:=(yai.1 hj).1;have hlt':j < 64:=by simpa [zaw,zdq] using hlt
  have:v = .int .i64 (S.N j):=by simpa [zaw,zdq,hlt'] using hj.symm
  rw [this,show (⟨K.nb,0,none⟩:Addr).add j=⟨K.nb,j,none⟩ by simp [Addr.add];try (intro h;exact h.symm),zac n1];exact n3 j hlt'
theorem zqw (h:MPre K V S vT w) (hl9:S.L.length≤1000000):Calls Try.prog 141 #[.pointer (some ⟨K.mb,0,none⟩)] w fun e w'=>∃ v,e = .returned v∧w'.ownsRow w.heap.size 2 1 v (zdl S).length (zaw (zdl S))∧Below w.heap.size w w':=by
 obtain ⟨i1,hi1,hz1,hz11,hz12⟩:=info_parts zij;obtain ⟨La,Lc,hvL,_⟩:=id h.lst;obtain ⟨N9,hN9⟩:∃ N,w.heap.size=N:=⟨_,rfl⟩;have m0:=h.cellM 0;simp only [yac,yaa,hvL] at m0;have HL:Hid (LstN K.nb w (.slice La S.L.length Lc) S.L):=yay (by rw [← hvL];exact h.lst);have hb0:Below N9 w (w.alloc (.cells #[.int .i64 (S.L.length:Int)] 2)):=(Below.refl _ _).alloc (by omega) _;have EN:=heap_alloc_new w (.cells #[.int .i64 (S.L.length:Int)] 2);rw [hN9] at EN ⊢;have own1:=own_one EN;have h1:=h.below hb0 hN9;replace hN9:=yay hN9;replace h:=yay h;replace hvL:=yay hvL;replace EN:=yay EN;replace hl9:=yay hl9;go_enter Try.func141,Try.ntmps141
 go_upto_region 2 with fail
 rw [hN9.out];generalize w.alloc (.cells #[.int .i64 (S.L.length:Int)] 2)=w1 at *;have m0:=h1.cellM 0;simp only [yac,yaa,hvL.out] at m0;have HL1:LstN K.nb w1 (.slice La S.L.length Lc) S.L:=by rw [← hvL.out];exact h1.lst
 have HS0:=yay (zk1 HL1);clear HL1;have hq:Hid (N9≤w1.heap.size):=yay (by have:=hb0.size;have:=hN9.out;omega);replace hb0:=yay hb0;replace own1:=yay own1;replace h1:=yay h1;go_upto_region 3 with (at_builtin;(refine zas rfl (.tmp 10) (.tmp 14) 22 rfl N9 2 i1 _ _ Try.underlying22 hi1 hz1 hz11 hz12 rfl (.slice (some ⟨N9,0,none⟩) 1 1) 1 _ rfl own1.out S.L.length _ HS0.out ?l2 ?b2 ?n2 ?_);(case l2=>(unfold maxLen;have:=hl9.out;omega));(case b2=>(have:=hl9.out;omega));(case n2=>(have:=hq.out;omega));intro v' w2 ha;obtain ⟨ho,hg,hsh⟩:=ha;have HH:=yay ho;have HB2:=yay (zbu own1.out hb0.out hq.out hg);clear ho hg hsh)
 obtain ⟨vp,vcc,rfl⟩:=zbg HH.out;have h2:=h.out.below HB2.out hN9.out;clear m0;have m2:=h2.cellM 2;simp only [yac,yaa,yab] at m2;have HS2:=yay h2.srcN;have hq2:Hid (N9≤w2.heap.size):=yay (by have:=HB2.out.size;have:=hN9.out;omega);replace h2:=yay h2
 go_wp2_with (at_builtin;(refine zas rfl (.tmp 16) (.tmp 20) 22 rfl N9 2 i1 _ _ Try.underlying22 hi1 hz1 hz11 hz12 rfl (.slice vp (1+S.L.length) vcc) (1+S.L.length) _ rfl HH.out 64 _ HS2.out ?l2 ?b2 ?n2 ?_);(case l2=>(unfold maxLen;have:=hl9.out;omega));(case b2=>(have:=hl9.out;omega));(case n2=>(have:=hq2.out;omega));intro v3 w3 ha;obtain ⟨ho,hg,hsh⟩:=ha;have HZ:=yay ho;have HB3:=yay (zbu HH.out HB2.out hq2.out hg);clear ho hg hsh)
 go_ret
 refine ⟨_,rfl,?_,HB3.out⟩;have hz:=HZ.out;have e1:zaw (zdl S)=zaw [(S.L.length:Int)]++zaw S.L++zaw (zdq S.N 64):=by simp [zdl,zaw]
 have e2:(zdl S).length=1+S.L.length+64:=by simp [zdl,zdq];omega
 rw [e1,e2];exact hz
end
section
variable {w0 w w' w2:World} {mb nb n i:Nat} {S:GMc}
theorem RB.step (h:RB w0 mb nb n S w) (hI:GInv n S) (hi:i < n) (hp:0 < (S.T i).pc) (hs:S.ser≤4611686018427387904):Calls Try.prog 139 #[.pointer (some ⟨mb,0,none⟩),.int .i64 i] w fun e w'=>e = .returned (.tuple #[])∧RB w0 mb nb n (zdj S i) w'∧KeepM nb w w':=by
 obtain ⟨K,V,vT,e1,e2,e3,e4,e5,hM⟩:=h;subst e1 e3 e4 e5;obtain ⟨tb,cap,_,hm⟩:=hM.mem (by omega);have:=zvm (i:=i) hm hi (hI.th i hi) ((hI.th i hi).pc.resolve_left (by omega)) hI.mem ⟨hI.ser,hs⟩;exact this.mono fun e w' ⟨h1,V',h2,h3⟩=>⟨h1,⟨{ K with tb:=tb,cap:=cap },V',_,rfl,e2,rfl,rfl,rfl,h2.pre⟩,h3⟩
theorem RB.settle (h:RB w0 mb nb n S w) (hI:GInv n S) (hi:i < n):Calls Try.prog 138 #[.pointer (some ⟨mb,0,none⟩),.int .i64 i] w fun e w'=>e = .returned (.tuple #[])∧RB w0 mb nb n (zbe S i) w'∧KeepM nb w w':=by
 obtain ⟨K,V,vT,e1,e2,e3,e4,e5,hM⟩:=h;subst e1 e3 e4 e5;obtain ⟨tb,cap,_,hm⟩:=hM.mem (by omega);have:=zk3 (i:=i) hm hi (hI.th i hi).ops (hI.th i hi).at_ (Nat.le_of_eq (hI.th i hi).ans);exact this.mono fun e w' ⟨h1,V',h2,h3⟩=>⟨h1,⟨{ K with tb:=tb,cap:=cap },V',_,rfl,e2,rfl,rfl,rfl,h2.pre⟩,h3⟩
theorem RB.left (h:RB w0 mb nb n S w):Calls Try.prog 140 #[.pointer (some ⟨mb,0,none⟩)] w fun e w'=>e = .returned (.bool (zfc S n))∧w'=w:=by
 obtain ⟨K,V,vT,e1,e2,e3,e4,e5,hM⟩:=h;subst e1 e3 e4 e5;exact zud hM
theorem RB.state (h:RB w0 mb nb n S w) (hl9:S.L.length≤1000000):Calls Try.prog 141 #[.pointer (some ⟨mb,0,none⟩)] w fun e w'=>∃ v,e = .returned v∧w'.ownsRow w.heap.size 2 1 v (zdl S).length (zaw (zdl S))∧Below w.heap.size w w':=by
 obtain ⟨K,V,vT,e1,e2,e3,e4,e5,hM⟩:=h;subst e1 e3 e4 e5;exact zqw hM hl9
theorem RB.grown {e k:Nat} {v:Value} {xs:List Value} (h:RB w0 mb nb n S w) (hr:w.ownsRow mb e 1 v k xs) (hg:w.grownBy w2 v.ownBlock) (he:e≠233∧e≠235∧e≠42∧e≠2):RB w0 mb nb n S w2:=by
 obtain ⟨K,V,vT,e1,e2,e3,e4,e5,hM⟩:=h;have hs:=hM.size;have hl:=hM.low;rw [e2] at hs hl;refine ⟨K,V,vT,e1,e2,e3,e4,e5,hM.keepT (fun b c t hb ht=>?_) ?_⟩
 ·refine (hg.block b (yah.1 hb).1 fun z=>?_).trans hb;obtain ⟨cc,hcc⟩:=zal hr z.symm;rw [hb] at hcc;simp at hcc;obtain ⟨_,rfl⟩:=hcc;rcases ht with q|q|q|q
  ·exact he.1 q
  ·exact he.2.1 q
  ·exact he.2.2.1 q
  ·exact he.2.2.2 q
 ·rw [e2];exact zbu hr hl hs hg
theorem RB.alloc (h:RB w0 mb nb n S w) (o:Obj):RB w0 mb nb n S (w.alloc o):=by
 obtain ⟨K,V,vT,e1,e2,e3,e4,e5,hM⟩:=h;exact ⟨K,V,vT,e1,e2,e3,e4,e5,(hM.alloc o).1⟩
theorem RB.below {N:Nat} (h:RB w0 mb nb n S w) (hb:Below N w w') (hN:w.heap.size=N):RB w0 mb nb n S w':=by
 obtain ⟨K,V,vT,e1,e2,e3,e4,e5,hM⟩:=h;exact ⟨K,V,vT,e1,e2,e3,e4,e5,hM.below hb hN⟩
theorem RB.put {b k:Nat} {c:Array Value} {t:TypeId} (h:RB w0 mb nb n S w) (hb:w.heap[b]?=some (.cells c t (0,0))) (ht:t≠233∧t≠235∧t≠42∧t≠2) (hlo:mb≤b) (v:Value):RB w0 mb nb n S (w.setCell ⟨b,k,none⟩ v):=by
 obtain ⟨K,V,vT,e1,e2,e3,e4,e5,hM⟩:=h;have hl:=hM.low;refine ⟨K,V,vT,e1,e2,e3,e4,e5,hM.keepT (fun b' c' t' hb' ht'=>?_) (hl.setCell (by rw [e2];exact hlo) _)⟩;refine (Below.heap_setCell _ _ _ _ fun z=>?_).trans hb';rw [z,hb] at hb';simp at hb';obtain ⟨_,rfl⟩:=hb';rcases ht' with q|q|q|q
 ·exact ht.1 q
 ·exact ht.2.1 q
 ·exact ht.2.2.1 q
 ·exact ht.2.2.2 q
theorem RB.mach (h:RB w0 mb nb n S w):∃ tp tc,w.cell? ⟨mb,3,none⟩=some (.slice tp n tc):=by
 obtain ⟨K,V,vT,e1,e2,e3,e4,e5,hM⟩:=h;subst e1 e3 e4 e5;obtain ⟨xs,hr,_⟩:=id hM.row;obtain ⟨tp,tc,rfl⟩:=zbg hr;exact ⟨tp,tc,hM.cellM 3⟩
theorem RB.see (h:RB w0 mb nb n S w) (hi:i < n):∃ tb tc va,w.cell? ⟨mb,3,none⟩=some (.slice (some ⟨tb,0,none⟩) n tc)∧w.cell? ⟨tb,i * 9+4,none⟩=some (.int .i64 (S.T i).pc)∧w.cell? ⟨tb,i * 9+1,none⟩=some va∧AnsM mb nb w va (S.T i).ans:=by
 obtain ⟨K,V,vT,e1,e2,e3,e4,e5,hM⟩:=h;obtain ⟨tb,cap,e,hm⟩:=hM.mem (by omega);subst e1 e3 e4 e5;refine ⟨tb,cap,V.va i,?_,hm.cellT hi (k:=4) (by decide),hm.cellT hi (k:=1) (by decide),by rw [← e2];exact hm.ans i hi⟩;rw [← e];exact hM.cellM 3
theorem RB.nbt (h:RB w0 mb nb n S w):∀ c t,w.heap[nb]?=some (.cells c t (0,0))→t=2:=by
 obtain ⟨K,V,vT,e1,e2,e3,e4,e5,hM⟩:=h;subst e4;obtain ⟨c,n1,_⟩:=hM.num;intro c' t' hc;rw [n1] at hc;simp at hc;exact hc.2.symm
theorem RB.kept (h:RB w0 mb nb n S w) (k:KeepM nb w w') {R0:Nat} {cs:Array Value} {t:TypeId} (hR:w.heap[R0]?=some (.cells cs t (0,0))) (ht:t≠233∧t≠235∧t≠42∧t≠2):w'.heap[R0]?=some (.cells cs t (0,0)) :=
 k R0 _ _ hR ht.1 ht.2.1 ht.2.2.1 fun z=>ht.2.2.2 (h.nbt _ _ (by rw [← z];exact hR))
theorem RB.low (h:RB w0 mb nb n S w):w0.heap.size=mb∧Below mb w0 w:=by
 obtain ⟨K,V,vT,e1,e2,e3,e4,e5,hM⟩:=h;have h1:=hM.bs;have h2:=hM.low;rw [e1,e2] at h1 h2;exact ⟨h1,h2⟩
end
def ZR:Array Value:=#[.slice none 0 0,.slice none 0 0,.slice none 0 0,.bool false]
structure RunAt (w0:World) (mb nb n R0:Nat) (S:GMc) (ord:List Int) (vo:Value) (w:World):Prop where
 rb:RB w0 mb nb n S w
 row:w.ownsRow mb 3 1 vo ord.length (zaw ord)
 res:w.heap[R0]?=some (.cells ZR 31 (0,0))
section
variable {w0 w w' w2:World} {mb nb n R0 i:Nat} {S:GMc} {ord:List Int} {vo:Value}
theorem RunAt.push (h:RunAt w0 mb nb n R0 S ord vo w) {x:Int} {v':Value} (hA:zc7 (w.alloc (.cells #[.int .i64 x] 3)) mb 3 vo ord.length 1 (zaw ord++[.int .i64 x]) v' w2):RunAt w0 mb nb n R0 S (ord++[x]) v' w2:=by
 obtain ⟨ho,hg,hsh⟩:=hA;have hr:=h.row.alloc (.cells #[.int .i64 x] 3);refine ⟨(h.rb.alloc _).grown hr hg (by decide),?_,?_⟩
 ·rw [List.length_append,zd4];exact ho
 ·have hR:(w.alloc (.cells #[.int .i64 x] 3)).heap[R0]?=some (.cells ZR 31 (0,0)):=(Below.heap_alloc _ _ _ (yah.1 h.res).1).trans h.res;refine (hg.block R0 (yah.1 hR).1 fun z=>?_).trans hR;obtain ⟨cc,hcc⟩:=zal hr z.symm;rw [hR] at hcc;simp at hcc
theorem RunAt.kept (h:RunAt w0 mb nb n R0 S ord vo w) {S':GMc} (hb:RB w0 mb nb n S' w') (k:KeepM nb w w'):RunAt w0 mb nb n R0 S' ord vo w' :=
 ⟨hb,k.row h.row (by decide) (by decide) (by decide) (by decide) h.rb.nbt,h.rb.kept k h.res (by decide)⟩
theorem RunAt.step (h:RunAt w0 mb nb n R0 S ord vo w) (hI:GInv n S) (hi:i < n) (hp:0 < (S.T i).pc) (hs:S.ser≤4611686018427387904):Calls Try.prog 139 #[.pointer (some ⟨mb,0,none⟩),.int .i64 i] w fun e w'=>e = .returned (.tuple #[])∧RunAt w0 mb nb n R0 (zdj S i) ord vo w' :=
 (h.rb.step hI hi hp hs).mono fun e w' ⟨a,b,c⟩=>⟨a,h.kept b c⟩
theorem RunAt.settle (h:RunAt w0 mb nb n R0 S ord vo w) (hI:GInv n S) (hi:i < n):Calls Try.prog 138 #[.pointer (some ⟨mb,0,none⟩),.int .i64 i] w fun e w'=>e = .returned (.tuple #[])∧RunAt w0 mb nb n R0 (zbe S i) ord vo w' :=
 (h.rb.settle hI hi).mono fun e w' ⟨a,b,c⟩=>⟨a,h.kept b c⟩
end
theorem info40r:(Try.prog.info? 40).map (fun i=>(i.zero,i.size,i.bytes))=some (some (.slice none 0 0),1,24):=by kernel_rfl
theorem info3r:(Try.prog.info? 3).map (fun i=>(i.zero,i.size,i.bytes))=some (some (.int .i64 0),1,8):=by kernel_rfl
theorem AnsM.ansIn {base nb:Nat} {w:World} {v:Value} {l:List Ans} (h:AnsM base nb w v l):AnsIn w v l:=by
 obtain ⟨vs,hvs,hr,hl⟩:=h;rcases hr.2 with ⟨e,q⟩|⟨g,cap,cur,e,q1,q2,q3,q4,q5,q6⟩
 ·rw [e];exact ⟨none,0,by rw [q],fun hne=>absurd (List.length_eq_zero_iff.1 q) hne⟩
 ·refine ⟨_,cap,e,fun hne=>⟨g,0,rfl,fun j r hj=>?_⟩⟩;have hlt:=(yai.1 hj).1;obtain ⟨u,hu⟩:∃ u,vs[j]?=some u:=⟨_,List.getElem?_eq_getElem (by omega)⟩;obtain ⟨f0,f1,f2⟩:=zlp l vs j r u hj hu;have cg:∀ k,k < 3→cur[j * 3+k]?=(zf0 l vs)[j * 3+k]?:=fun k hk=>by
   rw [← q6,List.getElem?_take_of_lt (by omega),Array.getElem?_toList]
  refine ⟨?_,?_,u,?_,(hl j r u hj hu).ints⟩
  ·rw [zac q2,Nat.zero_add];exact (cg 0 (by omega)).trans f0
  ·rw [zac q2,Nat.zero_add];exact (cg 1 (by omega)).trans f1
  ·rw [zac q2,Nat.zero_add];exact (cg 2 (by omega)).trans f2
theorem AnsM.keepT {base nb:Nat} {w w':World} {v:Value} {l:List Ans} (h:AnsM base nb w v l) (hk:∀ (b:Nat) (c:Array Value) (t:TypeId),w.heap[b]?=some (Obj.cells c t (0,0))→t=42∨t=2→w'.heap[b]?=some (Obj.cells c t (0,0))):AnsM base nb w' v l:=by
 obtain ⟨vs,a,b,c⟩:=h;refine ⟨vs,a,zar b fun g o hg hh=>?_,fun k r u hr hu=>(c k r u hr hu).keep fun b c _ hb=>hk _ _ _ hb (by simp)⟩;obtain ⟨cc,hcc⟩:=zal b hg;rw [← hh,hcc];exact hk _ _ _ hcc (by simp)
theorem AnsM.slice {base nb:Nat} {w:World} {v:Value} {l:List Ans} (h:AnsM base nb w v l):∃ p c,v = .slice p l.length c:=by
 obtain ⟨vs,_,hr,_⟩:=h;exact zbg hr
structure TrO (w0:World) (mb nb n R0 R1:Nat) (S:GMc) (ord:List Int) (vo vst:Value) (st:Bool) (j:Nat) (v:Value) (w:World):Prop where
 rb:RB w0 mb nb n S w
 rord:w.ownsRow mb 3 1 vo ord.length (zaw ord)
 rst:w.ownsRow mb 2 1 vst (zdl S).length (zaw (zdl S))
 res:w.heap[R0]?=some (.cells ZR 31 (0,0))
 blk:w.heap[R1]?=some (.cells #[v,vo,vst,.bool st] 31 (0,0))
 ne:R0≠R1
 lo:mb≤R0∧mb≤R1
 row:∃ xs:List Value,w.ownsRow mb 40 1 v j xs∧∀ i,i < j→∃ u,xs[i]?=some u∧AnsM mb nb w u (S.T i).ans
section
variable {w0 w w' w2:World} {mb nb n R0 R1 i:Nat} {S:GMc} {ord:List Int} {vo vst v v':Value} {st:Bool} {j:Nat}
theorem RunAt.told (h:RunAt w0 mb nb n R0 S ord vo w) (hlo:mb≤R0) {w2:World} (hb:Below w.heap.size w w2) (hst:w2.ownsRow w.heap.size 2 1 vst (zdl S).length (zaw (zdl S))):TrO w0 mb nb n R0 w2.heap.size S ord vo vst st 0 (.slice none 0 0) (w2.alloc (.cells #[.slice none 0 0,vo,vst,.bool st] 31)):=by
 have hR:=(yah.1 h.res).1;have hsz:=hb.size;have hl:=h.rb.low;have hl2:=hl.2.size;refine ⟨(h.rb.below hb rfl).alloc _,?_,?_,?_,heap_alloc_new _ _,by omega,⟨hlo,by omega⟩,⟨[],World.ownsRow_nil _ _ _ _,fun i hi=>absurd hi (Nat.not_lt_zero _)⟩⟩
 ·exact World.ownsRow.alloc (zar h.row fun g o hg hh=>(hb.block g (zbc h.row hg).2).trans hh) _
 ·have:=hst.alloc (.cells #[.slice none 0 0,vo,vst,.bool st] 31);refine ⟨this.1,?_⟩;rcases this.2 with q|⟨g,cap,cur,e,q1,q2⟩
  ·exact .inl q
  ·exact .inr ⟨g,cap,cur,e,by omega,q2⟩
 ·rw [Below.heap_alloc _ _ _ (by omega),hb.block R0 hR];exact h.res
theorem TrO.more (h:TrO w0 mb nb n R0 R1 S ord vo vst st j v w) {u:Value} (hu:AnsM mb nb w u (S.T j).ans) {xs:List Value} (hr:w.ownsRow mb 40 1 v j xs) (hx:∀ i,i < j→∃ u,xs[i]?=some u∧AnsM mb nb w u (S.T i).ans)
  (hA:zc7 (w.alloc (.cells #[u] 40)) mb 40 v j 1 (xs++[u]) v' w2) :
  w2.heap[R1]?=some (.cells #[v,vo,vst,.bool st] 31 (0,0))∧TrO w0 mb nb n R0 R1 S ord vo vst st (j+1) v' (w2.setCell ⟨R1,0,none⟩ v'):=by
 obtain ⟨ho,hg,hsh⟩:=hA;have h2:=hr.alloc (.cells #[u] 40);have kp:∀ (b:Nat) (cs:Array Value) (t:TypeId),w.heap[b]?=some (Obj.cells cs t (0,0))→t≠40→w2.heap[b]?=some (Obj.cells cs t (0,0)):=fun b cs t hb ht=>by
  have hb':(w.alloc (.cells #[u] 40)).heap[b]?=some (.cells cs t (0,0)):=(Below.heap_alloc _ _ _ (yah.1 hb).1).trans hb;refine (hg.block b (yah.1 hb').1 fun z=>?_).trans hb';obtain ⟨cc,hcc⟩:=zal h2 z.symm;rw [hb'] at hcc;simp at hcc;exact ht hcc.2
 have hB:=kp _ _ _ h.blk (by decide);have hs:=za3 hB 0 v';simp only [yak,yal] at hs;have k2:∀ (b:Nat) (cs:Array Value) (t:TypeId),w.heap[b]?=some (Obj.cells cs t (0,0))→t≠40→b≠R1→(w2.setCell ⟨R1,0,none⟩ v').heap[b]?=some (Obj.cells cs t (0,0)):=fun b cs t hb ht hne=>(Below.heap_setCell _ _ _ _ hne).trans (kp b cs t hb ht);have k3:∀ (b:Nat) (cs:Array Value) (t:TypeId),w.heap[b]?=some (Obj.cells cs t (0,0))→t≠40→t≠31→(w2.setCell ⟨R1,0,none⟩ v').heap[b]?=some (Obj.cells cs t (0,0)):=fun b cs t hb ht h31=>k2 b cs t hb ht fun z=>by
  rw [z,h.blk] at hb;simp at hb;exact h31 hb.2.symm
 refine ⟨hB,⟨((h.rb.alloc _).grown h2 hg (by decide)).put hB (by decide) h.lo.2 _,?_,?_,k2 _ _ _ h.res (by decide) h.ne,hs,h.ne,h.lo,xs++[u],?_,fun i hi=>?_⟩⟩
 ·exact zar h.rord fun g o hgo hh=>by
   obtain ⟨cc,hcc⟩:=zal h.rord hgo;rw [← hh,hcc];exact k3 _ _ _ hcc (by decide) (by decide)
 ·exact zar h.rst fun g o hgo hh=>by
   obtain ⟨cc,hcc⟩:=zal h.rst hgo;rw [← hh,hcc];exact k3 _ _ _ hcc (by decide) (by decide)
 ·exact zar ho fun g o hgo hh=>(Below.heap_setCell _ _ _ _ fun z=>by
   obtain ⟨cc,hcc⟩:=zal ho hgo;rw [z,hB] at hcc;simp at hcc).trans hh
 ·have hxl:xs.length=j:=by have:=hr.1;omega
  have hk:∀ (b:Nat) (cs:Array Value) (t:TypeId),w.heap[b]?=some (Obj.cells cs t (0,0))→t=42∨t=2→(w2.setCell ⟨R1,0,none⟩ v').heap[b]?=some (Obj.cells cs t (0,0)):=fun b cs t hb ht=>k3 b cs t hb (by rcases ht with z|z<;>rw [z]<;>decide) (by rcases ht with z|z<;>rw [z]<;>decide);by_cases e:i=j
  ·subst e;exact ⟨u,by rw [List.getElem?_append_right (by omega),hxl,Nat.sub_self];rfl,hu.keepT hk⟩
  ·obtain ⟨x,q1,q2⟩:=hx i (by omega);exact ⟨x,by rw [List.getElem?_append_left (by omega)];exact q1,q2.keepT hk⟩
theorem RB.drew (h:RB w0 mb nb n S w):RB w0 mb nb n S w.drew:=by
 obtain ⟨K,V,vT,e1,e2,e3,e4,e5,hM⟩:=h;obtain ⟨xs,r1,r2⟩:=hM.row;exact ⟨K,V,vT,e1,e2,e3,e4,e5,⟨hM.mach,hM.num,⟨xs,r1,r2⟩,hM.lst,fun i hi=>let ⟨vs,a,b,c⟩:=hM.ans i hi;⟨vs,a,b,c⟩,hM.vls,hM.inj,hM.ops,hM.low.drew,hM.lo,hM.bs,hM.nn⟩⟩
theorem TrO.drew (h:TrO w0 mb nb n R0 R1 S ord vo vst st j v w):TrO w0 mb nb n R0 R1 S ord vo vst st j v w.drew:=by
 obtain ⟨xs,r1,r2⟩:=h.row;exact ⟨h.rb.drew,h.rord,h.rst,h.res,h.blk,h.ne,h.lo,⟨xs,r1,fun i hi=>let ⟨u,a,vs,b,c,d⟩:=r2 i hi;⟨u,a,vs,b,c,d⟩⟩⟩
theorem TrO.done (h:TrO w0 mb nb n R0 R1 S ord vo vst st n v w) (k3:∀ (b:Nat) (cs:Array Value) (t:TypeId),w.heap[b]?=some (Obj.cells cs t (0,0))→t≠31→w'.heap[b]?=some (Obj.cells cs t (0,0))):TrIn w' (.agg #[v,vo,vst,.bool st]) ⟨(List.range n).map fun i=>(S.T i).ans,ord,zdl S,st⟩:=by
 have kr:∀ {e k:Nat} {u:Value} {xs:List Value},w.ownsRow mb e 1 u k xs→e≠31→w'.ownsRow mb e 1 u k xs:=fun {e k u xs} hr he=>zar hr fun g o hgo hh=>by
  obtain ⟨cc,hcc⟩:=zal hr hgo;rw [← hh,hcc];exact k3 _ _ _ hcc he
 obtain ⟨xs,hr,hx⟩:=h.row;refine ⟨v,vo,vst,rfl,?_,zdo (kr h.rord (by decide)),zdo (kr h.rst (by decide))⟩;obtain ⟨p,cap,e1,_,q⟩:=zet (kr hr (by decide));refine ⟨p,cap,by rw [e1];simp,fun hne=>?_⟩;have hn:0 < n:=by
  rcases Nat.eq_zero_or_pos n with z|z
  ·subst z;exact absurd rfl hne
  ·exact z
 obtain ⟨g,c,e2,_,hg,hc⟩:=q hn;refine ⟨g,0,e2,fun i l hi=>?_⟩;have hlt:i < n:=by
  have:=(yai.1 hi).1
  simpa using this
 obtain rfl:(S.T i).ans=l:=by simpa [hlt] using hi
 obtain ⟨u,hu,ha⟩:=hx i hlt;refine ⟨u,?_,(ha.keepT fun b cs t hb ht=>k3 b cs t hb (by rcases ht with z|z<;>rw [z]<;>decide)).ansIn⟩;rw [Nat.zero_add,zac hg,hc i hlt];exact hu
end
end Go.Proofs.Ytofacoojpgkbiaa
