/- Part of a proof. No condition. -/
import Derived.Test.YtofacoojpgkbiaaCCalP31
import Derived.Test.YtofacoojpgkbiaaCCalP37
import Derived.Test.YtofacoojpgkbiaaCCalP36
set_option linter.unusedVariables false
set_option maxHeartbeats 8000000
set_option linter.unusedSimpArgs false
namespace Go.Proofs.Ytofacoojpgkbiaa.Cl
open Go.Conc Go.RowKit
open Go.ConcN (upd upd_ne upd_same)
set_option maxRecDepth 100000
theorem JJ{p:Prop}[Decidable p](h:¬p):decide p=false:=decide_eq_false h
theorem JK{p:Prop}[Decidable p](h:p):decide p=true:=decide_eq_true h
theorem zzz:(Try.prog.info? 264).map (fun i=>(i.zero,i.size,i.bytes))=some (some (.agg #[.slice none 0 0,.slice none 0 0,.int .i64 0,.int .i64 0,.int .i64 0,.int .i64 0,.int .i64 0]),7,88):=by kernel_rfl
def RB(w0:World)(mb:Nat)(n:Nat)(S:GMc)(wr:World):Prop :=
 ∃K va vT,K.w0=w0∧K.base=mb∧K.mb=mb∧K.k≤65536∧K.n=n∧MPre K va S vT wr
theorem NewM.rb{w0 w:World}{mb:Nat}{vC:Value}{l:List Int}(h:NewM w0 mb vC l (min l.length 65536) w):RB w0 mb 0 (zmk l) w:=by
 have key:∀(ca:Option Addr) (cb cN:Nat),vC = .slice ca (min l.length 65536) cN→(0<min l.length 65536→ca=some ⟨cb,0,none⟩∧mb≤cb∧TRow 262 4 cb (min l.length 65536) cN (ccV (zmk l)) w)→RB w0 mb 0 (zmk l) w:=fun ca cb cN e hc =>
  ⟨⟨w0,mb,mb,cb,0,0,min l.length 65536,cN,0,ca,fun _=>undef⟩,fun _=>undef,.slice none 0 0,rfl,rfl,rfl,Nat.min_le_right _ _,rfl,
   ⟨by have:=h.mach;rw[e] at this;exact this,rfl,hc,⟨[],World.ownsRow_nil _ _ _ _,fun i hi=>absurd hi (Nat.not_lt_zero _)⟩,fun i hi=>absurd hi (Nat.not_lt_zero _),fun i j hi=>absurd hi (Nat.not_lt_zero _),fun i hi=>absurd hi (Nat.not_lt_zero _),h.low,yax _,h.bs,Nat.zero_le _⟩⟩
 rcases h.row.2 with⟨e,q⟩|⟨g,cap,cur,e,q1,q2,q3,q4,q5,q6⟩
 ·exact key none 0 0 (by rw[e,q]) fun z=>by omega
 ·refine key _ g cap e fun _=>⟨rfl,q1,⟨cur,q2,q3,q4,q5,fun i hi k hk=>?_⟩⟩;have:cur[i*4+k]?=(zkg l (min l.length 65536))[i*4+k]?:=by
   rw[←q6,List.getElem?_take_of_lt (by omega),Array.getElem?_toList]
  rw[this];exact zng l _ hi hk
theorem z2f(w1:World){vs:List Value}(h9:vs.length=7)(h1:∀u∈vs,u.oneCell'=true):z7g (w1.alloc (.cells vs.toArray 264)) (.slice (some ⟨w1.heap.size,0,none⟩) 1 1) 1 vs :=
 ⟨by omega,h1,.inr ⟨_,1,rfl,fun j u hj=>by
  have e:(⟨w1.heap.size,0,none⟩:Addr).add j=⟨w1.heap.size,j,none⟩:=by simp[Addr.add];try(intro h;exact h.symm)
  rw[e,zab (heap_alloc_new w1 (.cells vs.toArray 264)) j]
  simpa using hj⟩⟩
theorem z1z{a:Option Addr}{n c i:Nat}{L:List OpD}:∀u∈tcV (.slice a n c) (.slice none 0 0) i (zc3 L),u.oneCell'=true:=by
 intro u hu;simp only[tcV,List.mem_cons,List.not_mem_nil,or_false] at hu;rcases hu with rfl|rfl|rfl|rfl|rfl|rfl|rfl<;>rfl
section
variable{K:MK}{va:Nat→Value}{S:GMc}{wr:World}{vT:Value}
theorem zrc(hk9:K.k≤65536)(hM:MPre K va S vT wr)(hn:K.n<64)(hbm:K.base=K.mb){vo:Value}{L:List OpD}(hvo:zq0 K.w0 vo L)(hL:L.length≤65536){xs:List Value}(hrow:wr.ownsRow K.base 264 7 vT K.n xs)(hxs:∀i,i<K.n→∀k,k<7→xs[i*7+k]?=(tcV (K.vo i) (va i) i (S.T i))[k]?)
  (v':Value) (w2:World) (hA:zmc (wr.alloc (.cells (tcV vo (.slice none 0 0) K.n (zc3 L)).toArray 264)) K.base 264 vT K.n 1 (xs++tcV vo (.slice none 0 0) K.n (zc3 L)) v' w2) :
  ∃p c,v' = .slice p (K.n+1) c∧w2.heap[K.mb]?=wr.heap[K.mb]? ∧
   Calls Try.prog 148 #[.pointer (some ⟨K.mb,0,none⟩),.int .i64 K.n] (w2.setCell ⟨K.mb,1,none⟩ v') fun e w'=>e = .returned (.tuple #[])∧RB K.w0 K.mb (K.n+1) (zbm { S with T:=upd S.T K.n (zc3 L) } K.n) w'∧KeepM wr w':=by
 obtain⟨ho,hg,wP⟩:=hA;obtain⟨j1,k1⟩:=hM.alloc (.cells (tcV vo (.slice none 0 0) K.n (zc3 L)).toArray 264);obtain⟨m1,m2,m3⟩:=j1.more (vT':=v') (w2:=w2) hn (hrow.alloc _) hxs hvo ho hg (fun g qZ=>by
  rcases wP with⟨e1,_⟩|⟨g',cap,e1,_,e3⟩
  ·rw[e1] at qZ;cases qZ
  ·rw[e1] at qZ;simp only[Value.ownBlock,Option.some.injEq] at qZ;subst qZ;exact e3)
 obtain⟨p,c,e⟩:=zbe ho;refine⟨p,c,e,m1.trans (Below.heap_alloc _ _ _ (yah.1 hM.mach).1),?_⟩;obtain⟨tb,cap,_,wX⟩:=m2.mem (Nat.succ_pos _);have hT:({ S with T:=upd S.T K.n (zc3 L) }:GMc).T K.n=zc3 L:=upd_same _ _ _;have:=zlk (i:=K.n) wX (Nat.lt_succ_self _) (by rw[hT];exact hL) (by rw[hT];exact Nat.zero_le _) (by rw[hT];exact yax _);refine this.mono fun e w' ⟨h1,V',h2,h3⟩=>⟨h1,⟨{ K with n:=K.n+1,vo:=upd K.vo K.n vo,tb:=tb,cap:=cap },V',_,rfl,hbm,rfl,hk9,rfl,h2.pre⟩,k1.trans (m3.trans h3)⟩
end
section
variable{w0 w w' w2:World}{mb n i:Nat}{S:GMc}
theorem RB.step(h:RB w0 mb n S w)(hI:GInv n S)(hi:i<n)(hp:0<(S.T i).pc)(hs:S.N≤4611686018427387904):Calls Try.prog 149 #[.pointer (some ⟨mb,0,none⟩),.int .i64 i] w fun e w'=>e = .returned (.tuple #[])∧RB w0 mb n (zc8 S i) w'∧KeepM w w':=by
 obtain⟨K,V,vT,e1,e2,e3,e4,e5,hM⟩:=h;subst e1 e3 e5;obtain⟨tb,cap,_,hm⟩:=hM.mem (by omega);have:=zvx (i:=i) hm hi (hI.th i hi) ((hI.th i hi).pc.resolve_left (by omega)) ⟨hI.n0,hs⟩;exact this.mono fun e w' ⟨h1,V',h2,h3⟩=>⟨h1,⟨{ K with tb:=tb,cap:=cap },V',_,rfl,e2,rfl,e4,rfl,h2.pre⟩,h3⟩
theorem RB.settle(h:RB w0 mb n S w)(hI:GInv n S)(hi:i<n):Calls Try.prog 148 #[.pointer (some ⟨mb,0,none⟩),.int .i64 i] w fun e w'=>e = .returned (.tuple #[])∧RB w0 mb n (zbm S i) w'∧KeepM w w':=by
 obtain⟨K,V,vT,e1,e2,e3,e4,e5,hM⟩:=h;subst e1 e3 e5;obtain⟨tb,cap,_,hm⟩:=hM.mem (by omega);have:=zlk (i:=i) hm hi (hI.th i hi).ops (hI.th i hi).at_ (Nat.le_of_eq (hI.th i hi).ans);exact this.mono fun e w' ⟨h1,V',h2,h3⟩=>⟨h1,⟨{ K with tb:=tb,cap:=cap },V',_,rfl,e2,rfl,e4,rfl,h2.pre⟩,h3⟩
theorem RB.left(h:RB w0 mb n S w):Calls Try.prog 150 #[.pointer (some ⟨mb,0,none⟩)] w fun e w'=>e = .returned (.bool (ze0 S n))∧w'=w:=by
 obtain⟨K,V,vT,e1,e2,e3,e4,e5,hM⟩:=h;subst e1 e3 e5;exact zu1 hM
theorem RB.state(h:RB w0 mb n S w):Calls Try.prog 151 #[.pointer (some ⟨mb,0,none⟩)] w fun e w'=>∃v,e = .returned v∧w'.ownsRow w.heap.size 2 1 v (zd9 S).length (zdw (zd9 S))∧Below w.heap.size w w':=by
 rw[show(zd9 S).length=3*S.k from zxs _ _ _ _]
 obtain⟨K,V,vT,e1,e2,e3,e4,e5,hM⟩:=h;subst e1 e3 e5;exact zrq hM e4
theorem RB.grown{e k:Nat}{v:Value}{xs:List Value}(h:RB w0 mb n S w)(hr:w.ownsRow mb e 1 v k xs)(hg:w.grownBy w2 v.ownBlock)(he:e≠260∧e≠264∧e≠42∧e≠262):RB w0 mb n S w2:=by
 obtain⟨K,V,vT,e1,e2,e3,e4,e5,hM⟩:=h;have hs:=hM.size;have hl:=hM.low;rw[e2] at hs hl;refine⟨K,V,vT,e1,e2,e3,e4,e5,hM.keepT (fun b c t hb ht=>?_) ?_⟩
 ·refine(hg.block b (yah.1 hb).1 fun z=>?_).trans hb;obtain⟨cc,qc⟩:=zak hr z.symm;rw[hb] at qc;simp at qc;obtain⟨_,rfl⟩:=qc;rcases ht with q|q|q|q
  ·exact he.1 q
  ·exact he.2.1 q
  ·exact he.2.2.1 q
  ·exact he.2.2.2 q
 ·rw[e2];exact zd1 hr hl hs hg
theorem RB.alloc(h:RB w0 mb n S w)(o:Obj):RB w0 mb n S (w.alloc o):=by
 obtain⟨K,V,vT,e1,e2,e3,e4,e5,hM⟩:=h;exact⟨K,V,vT,e1,e2,e3,e4,e5,(hM.alloc o).1⟩
theorem RB.below{N:Nat}(h:RB w0 mb n S w)(hb:Below N w w')(hN:w.heap.size=N):RB w0 mb n S w':=by
 obtain⟨K,V,vT,e1,e2,e3,e4,e5,hM⟩:=h;exact⟨K,V,vT,e1,e2,e3,e4,e5,hM.below hb hN⟩
theorem RB.put{b k:Nat}{c:Array Value}{t:TypeId}(h:RB w0 mb n S w)(hb:w.heap[b]?=some (.cells c t (0,0)))(ht:t≠260∧t≠264∧t≠42∧t≠262)(hlo:mb≤b)(v:Value):RB w0 mb n S (w.setCell ⟨b,k,none⟩ v):=by
 obtain⟨K,V,vT,e1,e2,e3,e4,e5,hM⟩:=h;have hl:=hM.low;refine⟨K,V,vT,e1,e2,e3,e4,e5,hM.keepT (fun b' c' t' qw jC=>?_) (hl.setCell (by rw[e2];exact hlo) _)⟩;refine(Below.heap_setCell _ _ _ _ fun z=>?_).trans qw;rw[z,hb] at qw;simp at qw;obtain⟨_,rfl⟩:=qw;rcases jC with q|q|q|q
 ·exact ht.1 q
 ·exact ht.2.1 q
 ·exact ht.2.2.1 q
 ·exact ht.2.2.2 q
theorem RB.mach(h:RB w0 mb n S w):∃tp tc,w.cell? ⟨mb,1,none⟩=some (.slice tp n tc):=by
 obtain⟨K,V,vT,e1,e2,e3,e4,e5,hM⟩:=h;subst e1 e3 e5;obtain⟨xs,hr,_⟩:=id hM.row;obtain⟨tp,tc,rfl⟩:=zbe hr;exact⟨tp,tc,hM.cellM 1⟩
theorem RB.see(h:RB w0 mb n S w)(hi:i<n):∃tb tc va,w.cell? ⟨mb,1,none⟩=some (.slice (some ⟨tb,0,none⟩) n tc)∧w.cell? ⟨tb,i*7+4,none⟩=some (.int .i64 (S.T i).pc)∧w.cell? ⟨tb,i*7+1,none⟩=some va∧AnsM mb w va (S.T i).ans:=by
 obtain⟨K,V,vT,e1,e2,e3,e4,e5,hM⟩:=h;obtain⟨tb,cap,e,hm⟩:=hM.mem (by omega);subst e1 e3 e5;refine⟨tb,cap,V i,?_,hm.cellT hi (k:=4) (by decide),hm.cellT hi (k:=1) (by decide),by rw[←e2];exact hm.ans i hi⟩;rw[←e];exact hM.cellM 1
theorem RB.kept(h:RB w0 mb n S w)(k:KeepM w w'){R0:Nat}{cs:Array Value}{t:TypeId}(hR:w.heap[R0]?=some (.cells cs t (0,0)))(ht:t≠260∧t≠264∧t≠42∧t≠262):w'.heap[R0]?=some (.cells cs t (0,0)) :=
 k R0 _ _ hR ht.1 ht.2.2.2 ht.2.1 ht.2.2.1
theorem RB.low(h:RB w0 mb n S w):w0.heap.size=mb∧Below mb w0 w:=by
 obtain⟨K,V,vT,e1,e2,e3,e4,e5,hM⟩:=h;have h1:=hM.bs;have h2:=hM.low;rw[e1,e2] at h1 h2;exact⟨h1,h2⟩
end
def ZR:Array Value:=#[.slice none 0 0,.slice none 0 0,.slice none 0 0,.bool false]
structure RunAt(w0:World)(mb n R0:Nat)(S:GMc)(ord:List Int)(vo:Value)(w:World):Prop where
 rb:RB w0 mb n S w
 row:w.ownsRow mb 3 1 vo ord.length (zdw ord)
 res:w.heap[R0]?=some (.cells ZR 31 (0,0))
section
variable{w0 w w' w2:World}{mb n R0 i:Nat}{S:GMc}{ord:List Int}{vo:Value}
theorem RunAt.push(h:RunAt w0 mb n R0 S ord vo w){x:Int}{v':Value}(hA:zdv (w.alloc (.cells #[.int .i64 x] 3)) mb 3 vo ord.length 1 (zdw ord++[.int .i64 x]) v' w2):RunAt w0 mb n R0 S (ord++[x]) v' w2:=by
 obtain⟨ho,hg,wP⟩:=hA;have hr:=h.row.alloc (.cells #[.int .i64 x] 3);refine⟨(h.rb.alloc _).grown hr hg (by decide),?_,?_⟩
 ·rw[List.length_append,zu2];exact ho
 ·have hR:(w.alloc (.cells #[.int .i64 x] 3)).heap[R0]?=some (.cells ZR 31 (0,0)):=(Below.heap_alloc _ _ _ (yah.1 h.res).1).trans h.res;refine(hg.block R0 (yah.1 hR).1 fun z=>?_).trans hR;obtain⟨cc,qc⟩:=zak hr z.symm;rw[hR] at qc;simp at qc
theorem RunAt.kept(h:RunAt w0 mb n R0 S ord vo w){S':GMc}(hb:RB w0 mb n S' w')(k:KeepM w w'):RunAt w0 mb n R0 S' ord vo w' :=
 ⟨hb,k.row h.row (by decide) (by decide) (by decide) (by decide),h.rb.kept k h.res (by decide)⟩
theorem RunAt.step(h:RunAt w0 mb n R0 S ord vo w)(hI:GInv n S)(hi:i<n)(hp:0<(S.T i).pc)(hs:S.N≤4611686018427387904):Calls Try.prog 149 #[.pointer (some ⟨mb,0,none⟩),.int .i64 i] w fun e w'=>e = .returned (.tuple #[])∧RunAt w0 mb n R0 (zc8 S i) ord vo w' :=
 (h.rb.step hI hi hp hs).mono fun e w' ⟨a,b,c⟩=>⟨a,h.kept b c⟩
theorem RunAt.settle(h:RunAt w0 mb n R0 S ord vo w)(hI:GInv n S)(hi:i<n):Calls Try.prog 148 #[.pointer (some ⟨mb,0,none⟩),.int .i64 i] w fun e w'=>e = .returned (.tuple #[])∧RunAt w0 mb n R0 (zbm S i) ord vo w' :=
 (h.rb.settle hI hi).mono fun e w' ⟨a,b,c⟩=>⟨a,h.kept b c⟩
end
theorem z24:(Try.prog.info? 40).map (fun i=>(i.zero,i.size,i.bytes))=some (some (.slice none 0 0),1,24):=by kernel_rfl
theorem z5d:(Try.prog.info? 3).map (fun i=>(i.zero,i.size,i.bytes))=some (some (.int .i64 0),1,8):=by kernel_rfl
theorem zzo{n j:Nat}(h:j<n):(zvb n)[j]?=some (.slice none 0 0):=by unfold zvb;rw[List.getElem?_replicate,if_pos h]
theorem AnsM.ansIn{base:Nat}{w:World}{v:Value}{l:List Ans}(h:AnsM base w v l):AnsIn w v l:=by
 have hr:=h.row;rcases hr.2 with⟨e,q⟩|⟨g,cap,cur,e,q1,q2,q3,q4,q5,q6⟩
 ·rw[e];exact⟨none,0,by rw[q],fun qz=>absurd (List.length_eq_zero_iff.1 q) qz⟩
 ·refine⟨_,cap,e,fun qz=>⟨g,0,rfl,fun j r hj=>?_⟩⟩;have qr:=(yai.1 hj).1;obtain⟨f0,f1,f2⟩:=zgw l (zvb l.length) j r _ hj (zzo qr);have cg:∀k,k<3→cur[j*3+k]?=(zfm l (zvb l.length))[j*3+k]?:=fun k hk=>by
   rw[←q6,List.getElem?_take_of_lt (by omega),Array.getElem?_toList]
  refine⟨?_,?_,.slice none 0 0,?_,⟨none,0,by rw[h.nil r (List.mem_of_getElem? hj)];rfl,fun qz=>absurd (h.nil r (List.mem_of_getElem? hj)) qz⟩⟩
  ·rw[zab q2,Nat.zero_add];exact(cg 0 (by omega)).trans f0
  ·rw[zab q2,Nat.zero_add];exact(cg 1 (by omega)).trans f1
  ·rw[zab q2,Nat.zero_add];exact(cg 2 (by omega)).trans f2
theorem AnsM.keepT{base:Nat}{w w':World}{v:Value}{l:List Ans}(h:AnsM base w v l)(hk:∀(b:Nat) (c:Array Value) (t:TypeId),w.heap[b]?=some (Obj.cells c t (0,0))→t=42∨t=2→w'.heap[b]?=some (Obj.cells c t (0,0))):AnsM base w' v l :=
 h.keep fun g hg=>by
  obtain⟨cc,qc⟩:=zak h.row hg;exact(hk _ _ _ qc (by simp)).trans qc.symm
theorem AnsM.slice{base:Nat}{w:World}{v:Value}{l:List Ans}(h:AnsM base w v l):∃p c,v = .slice p l.length c:=zbe h.row
structure TrO(w0:World)(mb n R0 R1:Nat)(S:GMc)(ord:List Int)(vo vst:Value)(st:Bool)(j:Nat)(v:Value)(w:World):Prop where
 rb:RB w0 mb n S w
 rord:w.ownsRow mb 3 1 vo ord.length (zdw ord)
 rst:w.ownsRow mb 2 1 vst (zd9 S).length (zdw (zd9 S))
 res:w.heap[R0]?=some (.cells ZR 31 (0,0))
 blk:w.heap[R1]?=some (.cells #[v,vo,vst,.bool st] 31 (0,0))
 ne:R0≠R1
 lo:mb≤R0∧mb≤R1
 row:∃xs:List Value,w.ownsRow mb 40 1 v j xs∧∀i,i<j→∃u,xs[i]?=some u∧AnsM mb w u (S.T i).ans
section
variable{w0 w w' w2:World}{mb n R0 R1 i:Nat}{S:GMc}{ord:List Int}{vo vst v v':Value}{st:Bool}{j:Nat}
theorem RunAt.told(h:RunAt w0 mb n R0 S ord vo w)(hlo:mb≤R0){w2:World}(hb:Below w.heap.size w w2)(hst:w2.ownsRow w.heap.size 2 1 vst (zd9 S).length (zdw (zd9 S))):TrO w0 mb n R0 w2.heap.size S ord vo vst st 0 (.slice none 0 0) (w2.alloc (.cells #[.slice none 0 0,vo,vst,.bool st] 31)):=by
 have hR:=(yah.1 h.res).1;have qp:=hb.size;have hl:=h.rb.low;have wk:=hl.2.size;refine⟨(h.rb.below hb rfl).alloc _,?_,?_,?_,heap_alloc_new _ _,by omega,⟨hlo,by omega⟩,⟨[],World.ownsRow_nil _ _ _ _,fun i hi=>absurd hi (Nat.not_lt_zero _)⟩⟩
 ·exact World.ownsRow.alloc (zaq h.row fun g o hg hh=>(hb.block g (zb8 h.row hg).2).trans hh) _
 ·have:=hst.alloc (.cells #[.slice none 0 0,vo,vst,.bool st] 31);refine⟨this.1,?_⟩;rcases this.2 with q|⟨g,cap,cur,e,q1,q2⟩
  ·exact .inl q
  ·exact .inr ⟨g,cap,cur,e,by omega,q2⟩
 ·rw[Below.heap_alloc _ _ _ (by omega),hb.block R0 hR];exact h.res
theorem TrO.more(h:TrO w0 mb n R0 R1 S ord vo vst st j v w){u:Value}(hu:AnsM mb w u (S.T j).ans){xs:List Value}(hr:w.ownsRow mb 40 1 v j xs)(hx:∀i,i<j→∃u,xs[i]?=some u∧AnsM mb w u (S.T i).ans)
  (hA:zdv (w.alloc (.cells #[u] 40)) mb 40 v j 1 (xs++[u]) v' w2) :
  w2.heap[R1]?=some (.cells #[v,vo,vst,.bool st] 31 (0,0))∧TrO w0 mb n R0 R1 S ord vo vst st (j+1) v' (w2.setCell ⟨R1,0,none⟩ v'):=by
 obtain⟨ho,hg,wP⟩:=hA;have h2:=hr.alloc (.cells #[u] 40);have kp:∀(b:Nat) (cs:Array Value) (t:TypeId),w.heap[b]?=some (Obj.cells cs t (0,0))→t≠40→w2.heap[b]?=some (Obj.cells cs t (0,0)):=fun b cs t hb ht=>by
  have qw:(w.alloc (.cells #[u] 40)).heap[b]?=some (.cells cs t (0,0)):=(Below.heap_alloc _ _ _ (yah.1 hb).1).trans hb;refine(hg.block b (yah.1 qw).1 fun z=>?_).trans qw;obtain⟨cc,qc⟩:=zak h2 z.symm;rw[qw] at qc;simp at qc;exact ht qc.2
 have hB:=kp _ _ _ h.blk (by decide);have hs:=zal hB 0 v';simp only[yak,yal] at hs;have k2:∀(b:Nat) (cs:Array Value) (t:TypeId),w.heap[b]?=some (Obj.cells cs t (0,0))→t≠40→b≠R1→(w2.setCell ⟨R1,0,none⟩ v').heap[b]?=some (Obj.cells cs t (0,0)):=fun b cs t hb ht qz=>(Below.heap_setCell _ _ _ _ qz).trans (kp b cs t hb ht);have k3:∀(b:Nat) (cs:Array Value) (t:TypeId),w.heap[b]?=some (Obj.cells cs t (0,0))→t≠40→t≠31→(w2.setCell ⟨R1,0,none⟩ v').heap[b]?=some (Obj.cells cs t (0,0)):=fun b cs t hb ht jy=>k2 b cs t hb ht fun z=>by
  rw[z,h.blk] at hb;simp at hb;exact jy hb.2.symm
 refine⟨hB,⟨((h.rb.alloc _).grown h2 hg (by decide)).put hB (by decide) h.lo.2 _,?_,?_,k2 _ _ _ h.res (by decide) h.ne,hs,h.ne,h.lo,xs++[u],?_,fun i hi=>?_⟩⟩
 ·exact zaq h.rord fun g o qC hh=>by
   obtain⟨cc,qc⟩:=zak h.rord qC;rw[←hh,qc];exact k3 _ _ _ qc (by decide) (by decide)
 ·exact zaq h.rst fun g o qC hh=>by
   obtain⟨cc,qc⟩:=zak h.rst qC;rw[←hh,qc];exact k3 _ _ _ qc (by decide) (by decide)
 ·exact zaq ho fun g o qC hh=>(Below.heap_setCell _ _ _ _ fun z=>by
   obtain⟨cc,qc⟩:=zak ho qC;rw[z,hB] at qc;simp at qc).trans hh
 ·have jz:xs.length=j:=by have:=hr.1;omega
  have hk:∀(b:Nat) (cs:Array Value) (t:TypeId),w.heap[b]?=some (Obj.cells cs t (0,0))→t=42∨t=2→(w2.setCell ⟨R1,0,none⟩ v').heap[b]?=some (Obj.cells cs t (0,0)):=fun b cs t hb ht=>k3 b cs t hb (by rcases ht with z|z<;>rw[z]<;>decide) (by rcases ht with z|z<;>rw[z]<;>decide);by_cases e:i=j
  ·subst e;exact⟨u,by rw[List.getElem?_append_right (by omega),jz,Nat.sub_self];rfl,hu.keepT hk⟩
  ·obtain⟨x,q1,q2⟩:=hx i (by omega);exact⟨x,by rw[List.getElem?_append_left (by omega)];exact q1,q2.keepT hk⟩
theorem RB.drew(h:RB w0 mb n S w):RB w0 mb n S w.drew:=by
 obtain⟨K,V,vT,e1,e2,e3,e4,e5,hM⟩:=h;exact⟨K,V,vT,e1,e2,e3,e4,e5,hM.keepT (fun b c t hb _=>hb) hM.low.drew⟩
theorem TrO.drew(h:TrO w0 mb n R0 R1 S ord vo vst st j v w):TrO w0 mb n R0 R1 S ord vo vst st j v w.drew:=by
 obtain⟨xs,r1,r2⟩:=h.row;exact⟨h.rb.drew,h.rord,h.rst,h.res,h.blk,h.ne,h.lo,⟨xs,r1,fun i hi=>let ⟨u,a,b⟩:=r2 i hi;⟨u,a,b.keep fun _ _=>rfl⟩⟩⟩
theorem TrO.done(h:TrO w0 mb n R0 R1 S ord vo vst st n v w)(k3:∀(b:Nat) (cs:Array Value) (t:TypeId),w.heap[b]?=some (Obj.cells cs t (0,0))→t≠31→w'.heap[b]?=some (Obj.cells cs t (0,0))):TrIn w' (.agg #[v,vo,vst,.bool st]) ⟨(List.range n).map fun i=>(S.T i).ans,ord,zd9 S,st⟩:=by
 have kr:∀{e k:Nat} {u:Value} {xs:List Value},w.ownsRow mb e 1 u k xs→e≠31→w'.ownsRow mb e 1 u k xs:=fun{e k u xs} hr he=>zaq hr fun g o qC hh=>by
  obtain⟨cc,qc⟩:=zak hr qC;rw[←hh,qc];exact k3 _ _ _ qc he
 obtain⟨xs,hr,hx⟩:=h.row;refine⟨v,vo,vst,rfl,?_,zdl (kr h.rord (by decide)),zdl (kr h.rst (by decide))⟩;obtain⟨p,cap,e1,_,q⟩:=zlp (kr hr (by decide));refine⟨p,cap,by rw[e1];simp,fun qz=>?_⟩;have hn:0<n:=by
  rcases Nat.eq_zero_or_pos n with z|z
  ·subst z;exact absurd rfl qz
  ·exact z
 obtain⟨g,c,e2,_,hg,hc⟩:=q hn;refine⟨g,0,e2,fun i l hi=>?_⟩;have qr:i<n:=by
  have:=(yai.1 hi).1
  simpa using this
 obtain rfl:(S.T i).ans=l:=by simpa[qr] using hi
 obtain⟨u,hu,ha⟩:=hx i qr;refine⟨u,?_,(ha.keepT fun b cs t hb ht=>k3 b cs t hb (by rcases ht with z|z<;>rw[z]<;>decide)).ansIn⟩;rw[Nat.zero_add,zab hg,hc i qr];exact hu
end
theorem zj9{n mo k:Nat}{r:zkm}(h:¬(ze0 r.S n=true∧r.ord.length<mo)):zef n mo k r=r:=by
 cases k with
 | zero=>rfl
 | succ k=>unfold zef;rw[if_neg h]
theorem zup{n mo k:Nat}{r:zkm}(h:ze0 r.S n=true∧r.ord.length<mo):zef n mo (k+1) r=zef n mo k (zdh n mo r (zk0 n)):=by
 show(if _ then _ else _)=_;rw[if_pos h]
theorem zt0{n j:Nat}(h:j<n):(zk0 n)[j]?=some (j:Int):=by
 unfold zk0;rw[List.getElem?_map,List.getElem?_range' h];simp
theorem z0q(n:Nat):(zk0 n).length=n:=by simp[zk0]
theorem zr4{n mo:Nat}{r:zkm}(h:ze0 r.S n=true)(hm:r.ord.length<mo):r.ord.length<(zdh n mo r (zk0 n)).ord.length:=by
 obtain⟨i,hi,q⟩:=List.any_eq_true.1 h;have jl:=List.mem_range.1 hi;exact zl4 (zk0 n) jl (List.mem_iff_getElem?.2 ⟨i,zt0 jl⟩) (of_decide_eq_true q) hm
def z36(w0:World)(mb n R0 mo:Nat)(g:zkm)(k:Nat)(v:Value)(w:World):Prop :=
 ∃r,RunAt w0 mb n R0 r.S r.ord v w∧RInv n mo r∧zef n mo k r=g∧mo≤r.ord.length+k
structure z7j(w0:World)(mb:Nat)(S0:GMc)(vt vs:Value)(LL:List (List OpD))(sch:List Int)(w:World):Prop where
 rb:RB w0 mb 0 S0 w
 thr:ThrIn w0 vt LL
 sch:IntsIn w0 vs sch
 ser:S0.N=0
theorem zze{w0 w:World}{mb:Nat}{S0:GMc}{vt vs:Value}{LL:List (List OpD)}{sch:List Int}{most:Int}(h:z7j w0 mb S0 vt vs LL sch w)(hLL:LL.length≤4611686018427387904)(hsch:sch.length≤4611686018427387904) :
  Calls Try.prog 99 #[.pointer (some ⟨mb,0,none⟩),vt,vs,.int .i64 most] w (z6i w0 mb (runT S0 LL sch (min LL.length 64) (min (max most 0) 1048576).toNat)):=by
 obtain⟨wJ,wb,z1,z2,z3⟩:=info_parts zzz;obtain⟨ta,tcap,rfl,ob,ln,cp,we,qh⟩:=h.thr;obtain⟨n,hn⟩:∃n,min LL.length 64=n:=⟨_,rfl⟩;obtain⟨mo,qB⟩:∃m:Nat,((m:Nat):Int)=min (max most 0) 1048576:=⟨(min (max most 0) 1048576).toNat,by omega⟩;have q8:(min (max most 0) 1048576).toNat=mo:=by omega
 rw[q8,hn];clear q8;obtain⟨wO,qf⟩:w0.heap.size=mb∧Below mb w0 w:=by
  obtain⟨K,V,vT,e1,e2,e3,e4,e5,hM⟩:=h.rb;have h1:=hM.bs;have h2:=hM.low;rw[e1,e2] at h1 h2;exact⟨h1,h2⟩
 have qP:=h.rb;replace we:=yay we;replace qh:=yay qh;replace h:=yay h;obtain⟨R0,qv⟩:∃r,w.heap.size=r:=⟨_,rfl⟩;have EN:=heap_alloc_new w (.cells #[.slice none 0 0,.slice none 0 0,.slice none 0 0,.bool false] 31);have qq:RB w0 mb 0 S0 (w.alloc (.cells #[.slice none 0 0,.slice none 0 0,.slice none 0 0,.bool false] 31)):=by
  obtain⟨K,V,vT,e1,e2,e3,e4,e5,hM⟩:=qP;exact⟨K,V,vT,e1,e2,e3,e4,e5,(hM.alloc _).1⟩
 have qo:Below mb w0 (w.alloc (.cells #[.slice none 0 0,.slice none 0 0,.slice none 0 0,.bool false] 31)):=qf.alloc (by have:=qf.size;omega) _;rw[qv] at EN;replace qv:=yay qv;replace wO:=yay wO;replace qP:=yay qP;have qV:=yay qf;replace qf:=yay qf;go_enter Try.func99,Try.ntmps99
 go_upto_region 1 with fail
 rw[qv.out];generalize w.alloc (.cells #[.slice none 0 0,.slice none 0 0,.slice none 0 0,.bool false] 31)=w1 at *;replace EN:=yay EN;replace qq:=yay qq;replace qo:=yay qo;replace hn:=yay hn;replace qB:=yay qB
 go_upto_if 21 with fail
 go_cut [9] (fun v wx=>v = .int .i64 (n:Int)∧wx=w1)
 case first =>
  by_cases q:LL.length≤64
  ·have d1:decide (64<(LL.length:Int))=false:=JJ (by omega);have hz:=yay (show(LL.length:Int)=(n:Int) by have:=hn.out;omega)
   go_wp2_with fail
   go_meet
   exact⟨by rw[hz.out],rfl⟩
  ·have d1:decide (64<(LL.length:Int))=true:=JK (by omega);have hz:=yay (show(64:Int)=(n:Int) by have:=hn.out;omega)
   go_wp2_with fail
   go_meet
   exact⟨by rw[hz.out],rfl⟩
 case rest =>
  obtain⟨rfl,ew⟩:=hcut;obtain rfl:=ew.symm
  go_upto_if 23 with fail
  go_cut [3] (fun v wx=>v = .int .i64 (max most 0)∧wx=w1)
  case first =>
   by_cases q:most<0
   ·have d1:decide (most<0)=true:=JK q;have hz:=yay (show(0:Int)=max most 0 by omega)
    go_wp2_with fail
    go_meet
    exact⟨by rw[←hz.out],rfl⟩
   ·have d1:decide (most<0)=false:=JJ q;have hz:=yay (show most=max most 0 by omega)
    go_wp2_with fail
    go_meet
    exact⟨by rw[←hz.out],rfl⟩
  case rest =>
   obtain⟨rfl,ew⟩:=hcut;obtain rfl:=ew.symm
   go_upto_if 25 with fail
   obtain⟨mx,qM⟩:∃m,max most 0=m:=⟨_,rfl⟩;rw[qM];replace qM:=yay qM
   go_cut [3] (fun v wx=>v = .int .i64 (mo:Int)∧wx=w1)
   case first =>
    by_cases q:1048576<mx
    ·have d1:decide (1048576<mx)=true:=JK q;have hz:=yay (show(1048576:Int)=(mo:Int) by have:=qB.out;have:=qM.out;omega)
     go_wp2_with fail
     go_meet
     exact⟨by rw[←hz.out],rfl⟩
    ·have d1:decide (1048576<mx)=false:=JJ q;have hz:=yay (show mx=(mo:Int) by have:=qB.out;have:=qM.out;omega)
     go_wp2_with fail
     go_meet
     exact⟨by rw[←hz.out],rfl⟩
   case rest =>
    obtain⟨rfl,ew⟩:=hcut;obtain rfl:=ew.symm;clear qM
    go_upto_block 0 with fail
    go_cut [10] (fun v wx=>RB w0 mb n (zbx S0 (zo3 LL) n) wx∧wx.heap[R0]?=some (.cells #[.slice none 0 0,.slice none 0 0,.slice none 0 0,.bool false] 31 (0,0)))
    case first =>
     go_wp2_with fail
     go_loopw [10] (fun iv wr=>∃j:Nat,j≤n∧iv = .int .i64 j∧Hid (RB w0 mb j (zbx S0 (zo3 LL) j) wr∧wr.heap[R0]?=some (.cells #[.slice none 0 0,.slice none 0 0,.slice none 0 0,.bool false] 31 (0,0)))) (fun iv _=>n - (intOf iv).toNat)
     case atStart=>exact⟨0,by omega,rfl,yay ⟨qq.out,EN.out⟩⟩
     case round =>
      obtain⟨j,hj,rfl,HR⟩:=hrel;have wd:n≤64:=by have:=hn.out;omega
      by_cases qr:j<n
      ·have qa:(j:Int)<(n:Int):=by omega
       have ww:j<LL.length:=by have:=hn.out;omega
       have jE:(j:Int)<(LL.length:Int):=by omega
       have e1:IntKind.i64.wrap ((j:Int)+1)=((j+1:Nat):Int):=by rw[IntKind.wrap_i64];omega
       have hx:LL[j]?=some (LL.getD j []):=by rw[List.getD_eq_getElem?_getD,List.getElem?_eq_getElem ww];rfl
       obtain⟨tbb,tof,rfl,qn⟩:=we.out (by intro z;rw[z] at ww;simp at ww);have hc:=qn j _ hx;have hI:=qh.out j _ hx;have wt:ln j=(LL.getD j []).length:=hI.2.1;have hcp:ln j≤cp j:=hI.2.2.1;have hvo:=zuz hI;obtain⟨wa,qN⟩:=HR.out.1.low;have c1:wr.cell? ⟨tbb,tof+j,none⟩=some (.slice (ob j) (ln j) (cp j)):=(World.cell?_of_block (w:=w0) (qN.block _ (by rw[←wa];exact World.block_lt_of_cell? w0 _ hc))).trans hc;clear qn hc hx hI wa;generalize ob j=obj at *;generalize cp j=cpj at *;generalize ln j=lnj at *;obtain⟨l6,wf⟩:∃l,((LL.getD j []).take 65536).length=l:=⟨_,rfl⟩;have qi:l6=min lnj 65536:=by rw[←wf,List.length_take,wt];omega
       rw[wf] at hvo;obtain⟨K,V,vT,g1,g2,g3,g4,g5,hM⟩:=HR.out.1;obtain⟨xs,hrow,hxs⟩:=hM.row;have HT:=zrc g4 hM (by omega) (by rw[g2,g3]) (vo := .slice obj l6 cpj) (L:=zo3 LL j) (by rw[g1];exact hvo) (by unfold zo3;rw[List.length_take];omega) hrow hxs;rw[g1,g2,g3,g5] at HT;replace HT:=yay HT;have wK:Hid ((wr.alloc (.cells (tcV (.slice obj l6 cpj) (.slice none 0 0) j (zc3 (zo3 LL j))).toArray 264)).ownsRow mb 264 7 vT j xs):=yay (by rw[←g2,←g5];exact hrow.alloc _);have wU:=yay (z2f wr (vs:=tcV (.slice obj l6 cpj) (.slice none 0 0) j (zc3 (zo3 LL j))) rfl z1z);have qp:Hid (mb≤wr.heap.size):=yay (by have:=hM.size;rw[g2] at this;exact this);obtain⟨tp,tc,e0⟩:=zbe hrow;rw[g5] at e0;subst e0;have m:=hM.mach;rw[g3] at m;have m3:=zab m 1;simp only[yac,yaa,yab] at m3;replace m:=yay m;replace hM:=yay hM;replace hrow:=yay hrow;replace hxs:=yay hxs;replace hvo:=yay hvo;replace qN:=yay qN;replace g1:=yay g1;replace g2:=yay g2;replace g3:=yay g3;replace g4:=yay g4;replace g5:=yay g5;replace wf:=yay wf;replace wt:=yay wt
       go_upto_if 37 with fail
       generalize j0:wr=wo at *;clear j0
       go_cut [11] (fun v wx=>v = .slice obj l6 cpj∧wx=wo)
       case first =>
        by_cases q:65536<lnj
        ·have d1:decide (65536<(lnj:Int))=true:=JK (by omega);have q65:(65536:Int)≤(cpj:Int):=by omega
         have hz:=yay (show l6=65536 by omega);replace qi:=yay qi
         go_wp2_with fail
         go_meet
         exact⟨by rw[hz.out],rfl⟩
        ·have d1:decide (65536<(lnj:Int))=false:=JJ (by omega);have hz:=yay (show l6=lnj by omega);replace qi:=yay qi
         go_wp2_with fail
         go_meet
         exact⟨by rw[hz.out],rfl⟩
       case rest =>
        obtain⟨rfl,ew⟩:=hcut;obtain rfl:=ew.symm;replace qi:=yay qi;clear c1;clear qa;have qL:Hid (j<64):=yay (by omega)
        go_wp2_with (first
         | (at_builtin;(refine zig rfl (.tmp 44) (.tmp 48) 258 rfl mb 264 wJ _ _ Try.underlying258 wb z1 z2 z3 rfl (.slice tp j tc) j _ rfl wK.out 1 _ wU.out ?l2 ?b2 ?n2 ?_);(case l2=>(unfold maxLen;have:=qL.out;omega));(case b2=>(have:=qL.out;omega));(case n2=>(have:=qp.out;simp;omega));intro v' w2 ha;obtain⟨q1,q2,rfl,y1,y2⟩:=HT.out v' w2 ha;(have y3:=zab (y1.trans m.out) 1);simp only[yac,yaa,yab] at y3;(have y4:=zam (y1.trans m.out) 1);(have wL:=yay y2);clear y1 y2 ha)
         | (go_at_call 148;refine wL.out.mono ?_;rintro e w' ⟨rfl,jr,jb⟩;(have HD:=yay (show RB w0 mb (j+1) (zbx S0 (zo3 LL) (j+1)) w'∧w'.heap[R0]?=some (.cells #[.slice none 0 0,.slice none 0 0,.slice none 0 0,.bool false] 31 (0,0)) from⟨jr,HR.out.1.kept jb HR.out.2 (by decide)⟩));clear jr jb))
        exact⟨⟨j+1,by have:=qr;omega,by rw[Int.natCast_add];rfl,HD⟩,by simp[intOf];omega⟩
      ·obtain rfl:j=n:=by omega
       have qa:¬(j:Int)<(j:Int):=by omega
       go_wp2_with fail
       go_meet
       exact HR.out
    case rest =>
     obtain⟨qU,jo⟩:=hcut;clear EN qq qo we qh qf;have jk:RInv n mo ⟨zbx S0 (zo3 LL) n,[]⟩:=by
      obtain⟨a,b⟩:=zgk (L:=zo3 LL) (by rw[h.out.ser];decide) (zoa LL) n;exact⟨a,by rw[b.N,h.out.ser];exact Int.le_refl _,Nat.zero_le _⟩
     have hI:Hid (∀l,RInv n mo (zo1 S0 LL n mo l)):=yay fun l=>jk.fold l;clear jk;have jg:Hid (RunAt w0 mb n R0 (zbx S0 (zo3 LL) n) [] (.slice none 0 0) wc):=yay ⟨qU,World.ownsRow_nil _ _ _ _,jo⟩;clear qU jo;obtain⟨qF,sa,scap,rfl,_,wi⟩:=h.out.sch;replace qF:=yay qF;replace wi:=yay wi;obtain⟨i3,jf,y1,y2,y3⟩:=info_parts z5d
     go_upto_block 2 with fail
     go_cut [12] (fun v wx=>RunAt w0 mb n R0 (zo1 S0 LL n mo sch).S (zo1 S0 LL n mo sch).ord v wx)
     case first =>
      go_wp2_with fail
      go_loopw [12,13] (fun ov kv wr=>∃k:Nat,k≤sch.length∧kv = .int .i64 k∧Hid (RunAt w0 mb n R0 (zo1 S0 LL n mo (sch.take k)).S (zo1 S0 LL n mo (sch.take k)).ord ov wr)) (fun _ kv _=>sch.length - (intOf kv).toNat)
      case atStart=>exact⟨0,by omega,rfl,jg⟩
      case round =>
       obtain⟨k,hk,rfl,HA⟩:=hrel;obtain⟨r,hr⟩:∃r,zo1 S0 LL n mo (sch.take k)=r:=⟨_,rfl⟩;rw[hr] at HA;have qd:=hI.out (sch.take k);rw[hr] at qd;obtain⟨op,oc,rfl⟩:=zbe HA.out.row;have qg:=qd.ord;have qb:mo≤1048576:=by have:=qB.out;omega
       by_cases qr:k<sch.length
       ·have qa:(k:Int)<(sch.length:Int):=by omega
        have d1:decide ((k:Int)<(sch.length:Int))=true:=JK qa;by_cases hf:r.ord.length<mo
        ·have qI:(r.ord.length:Int)<(mo:Int):=by omega
         have d2:decide ((r.ord.length:Int)<(mo:Int))=true:=JK qI;have e1:IntKind.i64.wrap ((k:Int)+1)=((k+1:Nat):Int):=by rw[IntKind.wrap_i64];omega
         obtain⟨x,hx⟩:∃x,sch[k]?=some x:=⟨_,List.getElem?_eq_getElem qr⟩;obtain⟨sb,so,rfl,wv⟩:=wi.out (by intro z;rw[z] at qr;simp at qr);obtain⟨wa,qN⟩:=HA.out.rb.low;have c1:wr.cell? ⟨sb,so+k,none⟩=some (.int .i64 x):=(World.cell?_of_block (w:=w0) (qN.block _ (by rw[←wa];exact World.block_lt_of_cell? w0 _ (wv k x hx)))).trans (wv k x hx);have hN:Hid (zo1 S0 LL n mo (sch.take (k+1))=zc7 n mo r x):=yay (by
          rw[List.take_add_one,hx,←hr];exact zna _ _)
         clear wa qN wv;replace hx:=yay hx;replace hr:=yay hr;replace hf:=yay hf;replace qI:=yay qI;replace qr:=yay qr;replace qa:=yay qa;replace qd:=yay qd;replace qg:=yay qg;replace qb:=yay qb;have HB:Hid (zc7 n mo r x=r→RunAt w0 mb n R0 (zo1 S0 LL n mo (sch.take (k+1))).S (zo1 S0 LL n mo (sch.take (k+1))).ord (.slice op r.ord.length oc) wr):=yay fun z=>by rw[hN.out,z];exact HA.out
         by_cases q0:0≤x
         ·have d3:decide (0≤x)=true:=JK q0;by_cases q1:x<(n:Int)
          ·have d4:decide (x<(n:Int))=true:=JK q1;obtain⟨i,rfl⟩:∃i:Nat,x=(i:Int):=⟨x.toNat,by omega⟩;have hi:i<n:=by omega
           obtain⟨tb,tc,ji,t1,t2,_,_⟩:=HA.out.rb.see hi;by_cases q2:0<(r.S.T i).pc
           ·have d5:decide (0<(r.S.T i).pc)=true:=JK q2;have hst:zc7 n mo r (i:Int)=zvi r i:=by
             unfold zc7;rw[if_pos ⟨q0,q1,by simpa using q2,hf.out⟩];simp
            have wQ:Hid (∀v w',RunAt w0 mb n R0 (zbm (zc8 r.S i) i) (r.ord++[(i:Int)]) v w'→RunAt w0 mb n R0 (zo1 S0 LL n mo (sch.take (k+1))).S (zo1 S0 LL n mo (sch.take (k+1))).ord v w'):=yay fun v w' z=>by rw[hN.out,hst];exact z
            clear hst;have wZ:=yay (zwb wr (i:Int) 3);have wH:=yay (HA.out.row.alloc (.cells #[.int .i64 (i:Int)] 3));have qf:Hid (mb≤(wr.alloc (.cells #[.int .i64 (i:Int)] 3)).heap.size):=yay (by obtain⟨a,b⟩:=HA.out.rb.low;have:=b.size;simp;omega);have qH:Hid (r.S.N≤4611686018427387904):=yay (by have:=qd.out.ser;have:=qg.out;have:=qb.out;omega);replace q2:=yay q2;replace hi:=yay hi
            go_wp2_with (first
             | (at_builtin;(refine zcf rfl (.tmp 89) (.tmp 91) 24 rfl mb 3 i3 _ _ Try.underlying24 jf y1 y2 y3 rfl (.slice op r.ord.length oc) r.ord.length _ rfl wH.out 1 _ wZ.out ?l2 ?b2 ?n2 ?_);(case l2=>(unfold maxLen;have:=qg.out;have:=qb.out;omega));(case b2=>(have:=qg.out;have:=qb.out;omega));(case n2=>exact qf.out);intro v' w2 ha;(have HP:=yay (HA.out.push ha));clear ha)
             | (go_at_call 149;refine(HP.out.step qd.out.inv hi.out q2.out qH.out).mono ?_;rintro e w' ⟨rfl,hd⟩;(have wY:=yay hd);clear hd)
             | (go_at_call 148;refine(wY.out.settle (zn0 qd.out.inv hi.out ((qd.out.inv.th i hi.out).pc.resolve_left (by have:=q2.out;omega))) hi.out).mono ?_;rintro e w' ⟨rfl,hd⟩;(have wS:=yay hd);clear hd))
            exact⟨⟨k+1,qr.out,by rw[Int.natCast_add];rfl,yay (wQ.out _ _ wS.out)⟩,by have:=qr.out;simp[intOf];omega⟩
           ·have d5:decide (0<(r.S.T i).pc)=false:=JJ q2;have hst:zc7 n mo r (i:Int)=r:=by unfold zc7;rw[if_neg (fun z=>q2 (by simpa using z.2.2.1))]
            have qG:=yay (HB.out hst);clear hst;replace q2:=yay q2
            go_wp2_with fail
            exact⟨⟨k+1,qr.out,by rw[Int.natCast_add];rfl,qG⟩,by have:=qr.out;simp[intOf];omega⟩
          ·have d4:decide (x<(n:Int))=false:=JJ q1;have hst:zc7 n mo r x=r:=by unfold zc7;rw[if_neg (by omega)]
           have qG:=yay (HB.out hst);clear hst;replace q1:=yay q1
           go_wp2_with fail
           exact⟨⟨k+1,qr.out,by rw[Int.natCast_add];rfl,qG⟩,by have:=qr.out;simp[intOf];omega⟩
         ·have d3:decide (0≤x)=false:=JJ q0;have hst:zc7 n mo r x=r:=by unfold zc7;rw[if_neg (by omega)]
          have qG:=yay (HB.out hst);clear hst;replace q0:=yay q0
          go_wp2_with fail
          exact⟨⟨k+1,qr.out,by rw[Int.natCast_add];rfl,qG⟩,by have:=qr.out;simp[intOf];omega⟩
        ·have d2:decide ((r.ord.length:Int)<(mo:Int))=false:=JJ (by omega);have HZ:Hid (RunAt w0 mb n R0 (zo1 S0 LL n mo sch).S (zo1 S0 LL n mo sch).ord (.slice op r.ord.length oc) wr):=yay (by
          have:zo1 S0 LL n mo sch=r:=by
           have e:sch=sch.take k++sch.drop k:=(List.take_append_drop _ _).symm;rw[e];unfold zo1 at hr⊢;unfold zdh at hr⊢;rw[List.foldl_append,hr];exact zjv (n:=n) _ (by omega)
          rw[this];exact HA.out)
         replace hf:=yay hf;replace hr:=yay hr;replace qd:=yay qd
         go_wp2_with fail
         go_meet
         exact HZ.out
       ·obtain rfl:k=sch.length:=by omega
        have d1:decide ((sch.length:Int)<(sch.length:Int))=false:=JJ (by omega);rw[List.take_length] at hr;have HZ:Hid (RunAt w0 mb n R0 (zo1 S0 LL n mo sch).S (zo1 S0 LL n mo sch).ord (.slice op r.ord.length oc) wr):=yay (by
         rw[hr];exact HA.out)
        replace hr:=yay hr;replace qd:=yay qd
        go_wp2_with fail
        go_meet
        exact HZ.out
     case rest =>
      have HR:=yay hcut;have h9:Hid (z36 w0 mb n R0 mo (zkv S0 LL sch n mo) mo u12 wc):=yay ⟨_,hcut,hI.out sch,rfl,by omega⟩;clear hcut hI jg qF wi
      go_upto_block 4 with fail
      go_cut [12] (fun v wx=>RunAt w0 mb n R0 (zkv S0 LL sch n mo).S (zkv S0 LL sch n mo).ord v wx∧RInv n mo (zkv S0 LL sch n mo))
      case first =>
       go_wp2_with fail
       go_loopg [12] mo (fun k v wr=>Hid (z36 w0 mb n R0 mo (zkv S0 LL sch n mo) k v wr))
       case atStart=>exact h9
       case round =>
        obtain⟨r,HA,qd,qt,hk⟩:=hrel.out;replace HA:=yay HA;obtain⟨op,oc,e9⟩:=zbe HA.out.row;subst e9;have qg:=qd.ord;have qb:mo≤1048576:=by have:=qB.out;omega
        have HL:=HA.out.rb.left;by_cases hl:ze0 r.S n=true
        ·rw[hl] at HL;replace HL:=yay HL;by_cases hf:r.ord.length<mo
         ·have qI:(r.ord.length:Int)<(mo:Int):=by omega
          have d2:decide ((r.ord.length:Int)<(mo:Int))=true:=JK qI;have d2n:decide (r.ord.length<mo)=true:=JK hf;obtain⟨k',wC⟩:∃k',gk=k'+1:=⟨gk - 1,by omega⟩;have js:=zr4 hl hf;have HN:Hid (∀v w',RunAt w0 mb n R0 (zdh n mo r (zk0 n)).S (zdh n mo r (zk0 n)).ord v w'→z36 w0 mb n R0 mo (zkv S0 LL sch n mo) k' v w'):=yay fun v w' z=>⟨_,z,qd.fold _,by rw[←qt,wC,zup ⟨hl,hf⟩],by omega⟩;have jp:Hid (k'<gk):=yay (by omega);replace hf:=yay hf;replace qI:=yay qI;replace hl:=yay hl;replace hk:=yay hk;replace wC:=yay wC;replace js:=yay js;replace qt:=yay qt;replace qd:=yay qd;replace qg:=yay qg;replace qb:=yay qb;replace HR:=yay HR
          go_wp2_with (go_at_call 150;refine HL.out.mono ?_;rintro e w' ⟨rfl,rfl⟩)
          go_loopw [12,15] (fun ov jv wq=>∃j:Nat,j≤n∧jv = .int .i64 j∧Hid (RunAt w0 mb n R0 (zdh n mo r ((zk0 n).take j)).S (zdh n mo r ((zk0 n).take j)).ord ov wq)) (fun _ jv _=>n - (intOf jv).toNat)
          case atStart=>exact⟨0,by omega,rfl,HA⟩
          case round =>
           obtain⟨j,hj,rfl,HQ⟩:=hrel;obtain⟨r2,qj⟩:∃r2,zdh n mo r ((zk0 n).take j)=r2:=⟨_,rfl⟩;rw[qj] at HQ;have qk:=qd.out.fold ((zk0 n).take j);rw[qj] at qk;obtain⟨jq,jd,e9⟩:=zbe HQ.out.row;subst e9;have ql:=qk.ord;by_cases qr:j<n
           ·have qa:(j:Int)<(n:Int):=by omega
            have d6:decide ((j:Int)<(n:Int))=true:=JK qa;by_cases qY:r2.ord.length<mo
            ·have qE:(r2.ord.length:Int)<(mo:Int):=by omega
             have d7:decide ((r2.ord.length:Int)<(mo:Int))=true:=JK qE;have wd:n≤64:=by have:=hn.out;omega
             have e1:IntKind.i64.wrap ((j:Int)+1)=((j+1:Nat):Int):=by rw[IntKind.wrap_i64];omega
             obtain⟨tb,tc,ji,t1,t2,_,_⟩:=HQ.out.rb.see qr;have hN:Hid (zdh n mo r ((zk0 n).take (j+1))=zc7 n mo r2 j):=yay (by
              rw[List.take_add_one,zt0 qr,←qj];exact zna _ _)
             replace qj:=yay qj;replace qk:=yay qk;replace ql:=yay ql;replace qY:=yay qY;replace qE:=yay qE;replace wd:=yay wd;have qL:Hid (j<64):=yay (by have:=wd.out;omega);by_cases q2:0<(r2.S.T j).pc
             ·have d5:decide (0<(r2.S.T j).pc)=true:=JK q2;have hst:zc7 n mo r2 (j:Int)=zvi r2 j:=by
               unfold zc7;rw[if_pos ⟨by omega,qa,by simpa using q2,qY.out⟩];simp
              have wQ:Hid (∀v w',RunAt w0 mb n R0 (zbm (zc8 r2.S j) j) (r2.ord++[(j:Int)]) v w'→RunAt w0 mb n R0 (zdh n mo r ((zk0 n).take (j+1))).S (zdh n mo r ((zk0 n).take (j+1))).ord v w'):=yay fun v w' z=>by rw[hN.out,hst];exact z
              clear hst;replace qr:=yay qr;replace qa:=yay qa
              rename World=>wq
              have wZ:=yay (zwb wq (j:Int) 3);have wH:=yay (HQ.out.row.alloc (.cells #[.int .i64 (j:Int)] 3));have qf:Hid (mb≤(wq.alloc (.cells #[.int .i64 (j:Int)] 3)).heap.size):=yay (by obtain⟨a,b⟩:=HQ.out.rb.low;have:=b.size;simp;omega);have qH:Hid (r2.S.N≤4611686018427387904):=yay (by have:=qk.out.ser;have:=ql.out;have:=qb.out;omega);replace q2:=yay q2
              go_wp2_with (first
               | (at_builtin;(refine zcf rfl (.tmp 127) (.tmp 129) 24 rfl mb 3 i3 _ _ Try.underlying24 jf y1 y2 y3 rfl (.slice jq r2.ord.length jd) r2.ord.length _ rfl wH.out 1 _ wZ.out ?l2 ?b2 ?n2 ?_);(case l2=>(unfold maxLen;have:=ql.out;have:=qb.out;omega));(case b2=>(have:=ql.out;have:=qb.out;omega));(case n2=>exact qf.out);intro v' w2 ha;(have HP:=yay (HQ.out.push ha));clear ha)
               | (go_at_call 149;refine(HP.out.step qk.out.inv qr.out q2.out qH.out).mono ?_;rintro e w' ⟨rfl,hd⟩;(have wY:=yay hd);clear hd)
               | (go_at_call 148;refine(wY.out.settle (zn0 qk.out.inv qr.out ((qk.out.inv.th j qr.out).pc.resolve_left (by have:=q2.out;omega))) qr.out).mono ?_;rintro e w' ⟨rfl,hd⟩;(have wS:=yay hd);clear hd))
              exact⟨⟨j+1,qr.out,by rw[Int.natCast_add];rfl,yay (wQ.out _ _ wS.out)⟩,by have:=qr.out;simp[intOf];omega⟩
             ·have d5:decide (0<(r2.S.T j).pc)=false:=JJ q2;have hst:zc7 n mo r2 (j:Int)=r2:=by unfold zc7;rw[if_neg (fun z=>q2 (by simpa using z.2.2.1))]
              have qG:Hid (RunAt w0 mb n R0 (zdh n mo r ((zk0 n).take (j+1))).S (zdh n mo r ((zk0 n).take (j+1))).ord (.slice jq r2.ord.length jd) wr):=yay (by rw[hN.out,hst];exact HQ.out);clear hst;replace q2:=yay q2;replace qr:=yay qr;replace qa:=yay qa
              go_wp2_with fail
              exact⟨⟨j+1,qr.out,by rw[Int.natCast_add];rfl,qG⟩,by have:=qr.out;simp[intOf];omega⟩
            ·have d7:decide ((r2.ord.length:Int)<(mo:Int))=false:=JJ (by omega);have HZ:Hid (zdh n mo r (zk0 n)=r2):=yay (by
              have e:zk0 n=(zk0 n).take j++(zk0 n).drop j:=(List.take_append_drop _ _).symm;rw[e];unfold zdh at qj⊢;rw[List.foldl_append,qj];exact zjv (n:=n) _ (by omega))
             replace qY:=yay qY;replace qj:=yay qj;replace qk:=yay qk
             go_wp2_with fail
             go_roundg k'
             case measure=>exact jp.out
             case rel=>exact yay (HN.out _ _ (by rw[HZ.out];exact HQ.out))
           ·obtain rfl:j=n:=by omega
            have d6:decide ((j:Int)<(j:Int))=false:=JJ (by omega);have HZ:Hid (zdh j mo r (zk0 j)=r2):=yay (by
             rw[←qj,List.take_of_length_le (by rw[z0q];omega)])
            replace qj:=yay qj;replace qk:=yay qk
            go_wp2_with fail
            go_roundg k'
            case measure=>exact jp.out
            case rel=>exact yay (HN.out _ _ (by rw[HZ.out];exact HQ.out))
         ·have d2:decide ((r.ord.length:Int)<(mo:Int))=false:=JJ (by omega);have HZ:Hid (zkv S0 LL sch n mo=r):=yay (by rw[←qt];exact zj9 (fun z=>hf z.2));replace hl:=yay hl;replace hf:=yay hf;replace qd:=yay qd;replace qt:=yay qt
          go_wp2_with (go_at_call 150;refine HL.out.mono ?_;rintro e w' ⟨rfl,rfl⟩)
          go_meet
          rw[HZ.out];exact⟨HA.out,qd.out⟩
        ·have wk:ze0 r.S n=false:=by simpa using hl
         rw[wk] at HL;replace HL:=yay HL;have HZ:Hid (zkv S0 LL sch n mo=r):=yay (by rw[←qt];exact zj9 (fun z=>hl z.1));replace hl:=yay hl;replace wk:=yay wk;replace qd:=yay qd;replace qt:=yay qt
         go_wp2_with (go_at_call 150;refine HL.out.mono ?_;rintro e w' ⟨rfl,rfl⟩)
         go_meet
         rw[HZ.out];exact⟨HA.out,qd.out⟩
      case rest =>
       obtain⟨qK,wg⟩:=hcut;clear HR h9;have hQ:Hid (∀e w',z6i w0 mb ⟨(List.range n).map fun i=>((zkv S0 LL sch n mo).S.T i).ans,(zkv S0 LL sch n mo).ord,zd9 (zkv S0 LL sch n mo).S,ze0 (zkv S0 LL sch n mo).S n⟩ e w'→z6i w0 mb (runT S0 LL sch n mo) e w'):=yay fun e w' z=>z;generalize zkv S0 LL sch n mo=g at qK wg hQ;obtain⟨op,oc,e9⟩:=zbe qK.row;subst e9;have qe:mb≤R0:=by have:=qV.out.size;have:=qv.out;have:=wO.out;omega
       have qg:=wg.ord;have qb:mo≤1048576:=by have:=qB.out;omega
       have HL:=yay qK.rb.left;have HS:=yay (qK.rb.state);replace qe:=yay qe;replace qK:=yay qK;replace wg:=yay wg;go_upto_region 34 with(first
        | (go_at_call 150;refine HL.out.mono ?_;rintro e w' ⟨rfl,rfl⟩)
        | (go_at_call 151;refine HS.out.mono ?_;rintro e w9 ⟨v9,rfl,wj,jc⟩;obtain⟨sp,sc,e9⟩:=zbe wj;subst e9;(have HT:=yay (qK.out.told (st:=ze0 g.S n) qe.out jc wj));(have wE:=yay (z2j wj));clear wj jc))
       generalize w9.alloc (.cells #[.slice none 0 0,.slice op g.ord.length oc,.slice sp (zd9 g.S).length sc,.bool (ze0 g.S n)] 31)=wA at *;generalize w9.heap.size=R1 at *;obtain⟨j6,ws,a1,a2,a3⟩:=info_parts z24;generalize jj:(zd9 g.S).length=so at *;replace jj:=yay jj;generalize jh:ze0 g.S n=lf at *;replace jh:=yay jh;clear HL HS
       go_wp2_with fail
       go_loopw [17] (fun iv wr=>∃(j:Nat) (v:Value),j≤n∧iv = .int .i64 j∧Hid (TrO w0 mb n R0 R1 g.S g.ord (.slice op g.ord.length oc) (.slice sp so sc) lf j v wr)) (fun iv _=>n - (intOf iv).toNat)
       case atStart=>exact⟨0,_,by omega,rfl,HT⟩
       case round =>
        obtain⟨j,v,hj,rfl,HL⟩:=hrel;obtain⟨xs,hrow,hxs⟩:=HL.out.row;obtain⟨vp,vc,e9⟩:=zbe hrow;subst e9;by_cases qr:j<n
        ·have qa:(j:Int)<(n:Int):=by omega
         have wd:n≤64:=by have:=hn.out;omega
         obtain⟨tb,tc,ji,t1,t2,t3,t4⟩:=HL.out.rb.see qr;obtain⟨pa,pc,e9⟩:=t4.slice;subst e9;generalize q7:(g.S.T j).ans.length=aln at *;replace q7:=yay q7;have b0:wr.cell? ⟨R1,0,none⟩=some (.slice vp j vc):=by rw[zab HL.out.blk 0];rfl
         have al:∀{a:Addr} {v:Value} (o:Obj),wr.cell? a=some v→(wr.alloc o).cell? a=some v:=fun{a v} o hv=>(World.cell?_of_block (w:=wr) (Below.heap_alloc _ _ _ (World.block_lt_of_cell? wr _ hv))).trans hv;have b0':=al (.cells #[.slice pa aln pc] 40) b0;have HD:=HL.out.drew;have ju:(wr.drew.alloc (.cells #[.slice pa aln pc] 40)).ownsRow mb 40 1 (.slice vp j vc) j xs:=World.ownsRow.alloc (w:=wr.drew) hrow _;have jn:=zwa wr.drew (.slice pa aln pc) 40 rfl;have hlo:=HL.out.rb.low;obtain⟨v',w3,qT,ha⟩:=zb0 (P:=Try.prog) (wr.drew.alloc (.cells #[.slice pa aln pc] 40)) mb 29 29 40 j6 _ 24 Try.underlying29 ws a1 a2 a3 (by rfl) (.slice vp j vc) j _ ju (.slice (some ⟨wr.heap.size,0,none⟩) 1 1) 1 [.slice pa aln pc] jn (by unfold maxLen;omega) (by omega) (by show mb≤(wr.alloc (.cells #[.slice pa aln pc] 40)).heap.size;have:=hlo.2.size;simp;omega);have wB:Hid ((Builtin.append_ #[29,29] 29 #[.slice vp j vc,.slice (some ⟨wr.heap.size,0,none⟩) 1 1]).run Try.prog (wr.alloc (.cells #[.slice pa aln pc] 40)).drew = .ok v' w3):=yay qT;obtain⟨wF,HM⟩:=HD.more (u := .slice pa aln pc) (t4.keep fun _ _=>rfl) hrow (fun i hi=>let ⟨u,a,b⟩:=hxs i hi;⟨u,a,b.keep fun _ _=>rfl⟩) ha;obtain⟨xs2,qx,_⟩:=HM.row;obtain⟨j5,jA,e9⟩:=zbe qx;subst e9;have d0:w3.cell? ⟨R1,0,none⟩=some (.slice vp j vc):=by rw[zab wF 0];rfl
         have y0:=zam wF 0;have e2:IntKind.i64.wrap ((j:Int)+1)=((j+1:Nat):Int):=by rw[IntKind.wrap_i64];omega
         clear qT ha ju jn HD wF al qx t4;replace HM:=yay HM;replace HL:=yay HL;replace hrow:=yay hrow;replace hxs:=yay hxs;replace hlo:=yay hlo;go_upto_region 37 with fail
         go_region_law (refine za1 (by rfl) _ _ 29 29 (by rfl) (.slice vp j vc) (.slice (some ⟨wr.heap.size,0,none⟩) 1 1) (by rfl) (by rfl) wB.out ?_)
         all_goals
          go_wp2_with fail
          refine⟨⟨j+1,.slice j5 (j+1) jA,by omega,by rw[Int.natCast_add];rfl,HM⟩,by simp[intOf];omega⟩
        ·obtain rfl:j=n:=by omega
         have b0:wr.cell? ⟨R1,0,none⟩=some (.slice vp j vc):=by rw[zab HL.out.blk 0];rfl
         have b1:wr.cell? ⟨R1,1,none⟩=some (.slice op g.ord.length oc):=by rw[zab HL.out.blk 1];rfl
         have b2:wr.cell? ⟨R1,2,none⟩=some (.slice sp so sc):=by rw[zab HL.out.blk 2];rfl
         have b3:wr.cell? ⟨R1,3,none⟩=some (.bool lf):=by rw[zab HL.out.blk 3];rfl
         have r0:wr.cell? ⟨R0,0,none⟩=some (.slice none 0 0):=by rw[zab HL.out.res 0];rfl
         have r1:wr.cell? ⟨R0,1,none⟩=some (.slice none 0 0):=by rw[zab HL.out.res 1];rfl
         have r2:wr.cell? ⟨R0,2,none⟩=some (.slice none 0 0):=by rw[zab HL.out.res 2];rfl
         have r3:wr.cell? ⟨R0,3,none⟩=some (.bool false):=by rw[zab HL.out.res 3];rfl
         have y0:=zam HL.out.res 0;have y1:=zam HL.out.res 1;have y2:=zam HL.out.res 2;have y3:=zam HL.out.res 3;obtain⟨x1,x2,x3⟩:=z6e (x := .slice vp j vc) (y := .slice op g.ord.length oc) (z := .slice sp so sc) (u := .bool lf) HL.out.res;have BF:=((((HL.out.rb.low.2).setCell (p:=⟨R0,0,none⟩) qe.out (.slice vp j vc)).setCell (p:=⟨R0,1,none⟩) qe.out (.slice op g.ord.length oc)).setCell (p:=⟨R0,2,none⟩) qe.out (.slice sp so sc)).setCell (p:=⟨R0,3,none⟩) qe.out (.bool lf);have HF:=yay (show ∀w'':World,(∀(b:Nat) (c:Array Value) (t:TypeId),wr.heap[b]?=some (Obj.cells c t (0,0))→t≠31→w''.heap[b]?=some (Obj.cells c t (0,0)))→TrIn w'' _ _ from fun w'' hk=>HL.out.done hk)
         have jx:=yay HL.out.res;replace x2:=yay x2;replace x1:=yay x1;replace BF:=yay BF;replace hrow:=yay hrow;replace hxs:=yay hxs;clear x3
         go_wp2_with fail
         refine bodyPost_ret (results_cell_row (fn:=Try.f99) (p:=8) (ty:=31) rfl _ _ R0 31 _ (0,0) _ rfl x1.out Try.underlying31 rfl zsy) rfl ?_;exact hQ.out _ _ ⟨_,rfl,fun w'' hk=>HF.out w'' fun b c t hb ht=>hk b c t ((x2.out b fun z=>by
          rw[z,jx.out] at hb;simp at hb;exact ht hb.2.symm).trans hb) ht,BF.out,_,_,_,_,_,_,rfl,wE.out⟩
theorem refM_walkC{w:World}{l:List Int}{LL:List (List OpD)}{sch:List Int}{vl vt vs:Value}{most:Int}(hl:IntsIn w vl l)(hT:ThrIn w vt LL)(hS:IntsIn w vs sch)(hl9:l.length≤4611686018427387904)(hLL:LL.length≤4611686018427387904)(hsch:sch.length≤4611686018427387904) :
  Calls Try.prog 31 #[vl,vt,vs,.int .i64 most] w (z7m (trM l LL sch most) w):=by
 generalize q9:trM l LL sch most=T;replace q9:=yay q9;have EN:=heap_alloc_new w (.cells #[.slice none 0 0,.slice none 0 0,.slice none 0 0,.bool false] 31);have B0:Below w.heap.size w (w.alloc (.cells #[.slice none 0 0,.slice none 0 0,.slice none 0 0,.bool false] 31)):=(Below.refl _ _).alloc (yax _) _;have S0:(w.alloc (.cells #[.slice none 0 0,.slice none 0 0,.slice none 0 0,.bool false] 31)).heap.size=w.heap.size+1:=by simp
 have wM:=hl.keep fun b hb=>B0.block b hb;have wy:=hT.keep fun b hb=>B0.block b hb;have wR:=hS.keep fun b hb=>B0.block b hb;clear hl hT hS;replace wy:=yay wy;replace wR:=yay wR;replace wM:=yay wM;replace hl9:=yay hl9;replace hLL:=yay hLL;replace hsch:=yay hsch;go_enter Try.func31,Try.ntmps31
 go_upto_region 1 with fail
 generalize w.alloc (.cells #[.slice none 0 0,.slice none 0 0,.slice none 0 0,.bool false] 31)=w1 at *;generalize hN:w.heap.size=N at *;have HN:=yay (zww wM.out.at hl9.out);replace EN:=yay EN;replace B0:=yay B0;replace S0:=yay S0;replace hN:=yay hN;generalize wn:w1.heap.size=mb at HN;replace wn:=yay wn
 go_wp2_with (first
  | (go_at_call 98;refine HN.out.mono ?_;rintro e w2 ⟨rfl,vC,hM⟩;have qP:=hM.rb;(have HR:Hid (Calls Try.prog 99 #[.pointer (some ⟨mb,0,none⟩),vt,vs,.int .i64 most] w2 (z6i w1 mb T)):=yay (by rw[←q9.out];exact zze (most:=most) ⟨qP,wy.out,wR.out,rfl⟩ hLL.out hsch.out));clear hM qP)
  | (go_at_call 99;refine HR.out.mono ?_;rintro e w3 ⟨v,rfl,qW,hB,hC⟩;obtain⟨va,vo,vst,e9,⟨pa,ca,wz,_⟩,⟨po,co,e11,_⟩,⟨ps,cs,e12,_⟩⟩:=qW w3 (fun _ _ _ h _=>h);subst e9;subst wz;subst e11;subst e12;(have jD:=yay qW);(have HC:=yay hC);clear hC;(have HB:=yay hB);clear qW hB;(have EW:w3.heap[N]?=some (.cells #[.slice none 0 0,.slice none 0 0,.slice none 0 0,.bool false] 31 (0,0)):=(HB.out.block N (by have:=S0.out;have:=wn.out;omega)).trans EN.out);(have r0:w3.cell? ⟨N,0,none⟩=some (.slice none 0 0):=by rw[zab EW 0];rfl);(have r1:w3.cell? ⟨N,1,none⟩=some (.slice none 0 0):=by rw[zab EW 1];rfl);(have r2:w3.cell? ⟨N,2,none⟩=some (.slice none 0 0):=by rw[zab EW 2];rfl);(have r3:w3.cell? ⟨N,3,none⟩=some (.bool false):=by rw[zab EW 3];rfl);have y0:=zam EW 0;have y1:=zam EW 1;have y2:=zam EW 2;have y3:=zam EW 3;(have X:=yay (z6e (x := .slice pa T.ans.length ca) (y := .slice po T.ord.length co) (z := .slice ps T.st.length cs) (u := .bool T.stuck) EW));(have j3:=yay EW);clear EW))
 obtain⟨x1,x2,x3⟩:=X.out;have BL:Below N w w3:=B0.out.trans (HB.out.mono (by have:=S0.out;have:=wn.out;omega));have BF:=yay ( (((BL.setCell (p:=⟨N,0,none⟩) (yax N) (.slice pa T.ans.length ca)).setCell (p:=⟨N,1,none⟩) (yax N) (.slice po T.ord.length co)).setCell (p:=⟨N,2,none⟩) (yax N) (.slice ps T.st.length cs)).setCell (p:=⟨N,3,none⟩) (yax N) (.bool T.stuck));refine bodyPost_ret (results_cell_row (fn:=Try.f31) (p:=8) (ty:=31) rfl _ _ N 31 _ (0,0) _ rfl x1 Try.underlying31 rfl zsy) rfl ?_;refine⟨_,rfl,jD.out _ fun b c t hb ht=>(x2 b fun z=>?_).trans hb,by rw[hN.out];exact BF.out,HC.out⟩;rw[z,j3.out] at hb;simp at hb;exact ht hb.2.symm
end Go.Proofs.Ytofacoojpgkbiaa.Cl
namespace Go.Proofs.Ytofacoojpgkbiaa
open Go.Conc Go.RowKit
open Go.ConcN (upd upd_ne upd_same)
set_option maxRecDepth 100000
theorem z6z:Prg false Try.prog (·∈[31,98,99,148,149,150,151,181,182,183,184,185,186]):=zgq zag (by kernel_rfl) (by kernel_rfl) (by kernel_rfl)
def zyl(a b c k:Nat):Nat→Owner:=fun x=>if x=a∨x=b∨x=c then .sh else if x=k then .tag (zhj 0 1+2) else .out
theorem zd4{a b c k x:Nat}(h:x≠a)(h2:x≠b)(h3:x≠c)(h4:x≠k):zyl a b c k x = .out:=by
 unfold zyl;rw[if_neg (by rintro(z|z|z)<;>contradiction),if_neg h4]
theorem z2s{a b c k x:Nat}(h:zyl a b c k x ≠ .out):x=a∨x=b∨x=c∨x=k:=by
 by_cases h1:x=a
 ·exact .inl h1
 by_cases h2:x=b
 ·exact .inr (.inl h2)
 by_cases h3:x=c
 ·exact .inr (.inr (.inl h3))
 by_cases h4:x=k
 ·exact .inr (.inr (.inr h4))
 exact absurd (zd4 h1 h2 h3 h4) h
theorem z2y{v:Int}(hv:zcm v){w0 w1 w2 w3:World}{N sb:Nat}(hN:w0.heap.size=N)(A:Made v N w0 w1)(B:Made v (N+5) w1 w2)(hs:sb=N+10)(l:LeftW w2 w3)(hc:w3.heap[sb]?=some (zym 0)) :
  KE ⟨N,N+1,N+2,N+5,N+6,N+7,sb⟩ [(N+4,thO N (N+1) (N+2)),(N+9,thO (N+5) (N+6) (N+7))] w0 0 (stC [v]) (stC [v]) (zyl N (N+1) (N+2) (N+3)) (zyl (N+5) (N+6) (N+7) (N+8)) w3:=by
 have A3:=A.left (B.l.trans l);have B3:=B.left l;have lA:=A3.l;have hz:ThW N (N+1) (N+2) (stC [v]) (zyl N (N+1) (N+2) (N+3)) w3:=z41 hv lA ⟨by omega,by omega,by omega,by omega⟩ A3.wo A3.fl A3.bo A3.kp;have hw:ThW (N+5) (N+6) (N+7) (stC [v]) (zyl (N+5) (N+6) (N+7) (N+8)) w3:=z41 hv lA ⟨by omega,by omega,by omega,by omega⟩ B3.wo B3.fl B3.bo B3.kp;have qp:=(yah.1 hc).1;refine⟨⟨⟨hz,hw,fun b=>?_,lA,fun b hb=>?_,fun b hb=>?_⟩,?_,?_,?_,hc⟩,fun K o hm=>?_⟩
 ·by_cases h:zyl N (N+1) (N+2) (N+3) b = .out
  ·exact .inl h
  ·right;have:=z2s h;exact zd4 (by omega) (by omega) (by omega) (by omega)
 ·exact zd4 (by omega) (by omega) (by omega) (by omega)
 ·exact zd4 (by omega) (by omega) (by omega) (by omega)
 ·exact zd4 (by show sb≠_;omega) (by show sb≠_;omega) (by show sb≠_;omega) (by show sb≠_;omega)
 ·exact zd4 (by show sb≠_;omega) (by show sb≠_;omega) (by show sb≠_;omega) (by show sb≠_;omega)
 ·show w0.heap.size≤sb;omega
 ·simp only[List.mem_cons,List.not_mem_nil,or_false,Prod.mk.injEq] at hm;rcases hm with⟨rfl,rfl⟩|⟨rfl,rfl⟩
  ·exact⟨mk_out.2 ⟨by show N+4≠sb;omega,zd4 (by omega) (by omega) (by omega) (by omega)⟩,zd4 (by omega) (by omega) (by omega) (by omega),A3.th⟩
  ·exact⟨mk_out.2 ⟨by show N+9≠sb;omega,zd4 (by omega) (by omega) (by omega) (by omega)⟩,zd4 (by omega) (by omega) (by omega) (by omega),B3.th⟩
section
variable{Z:Machine→Trace→Prop}{cs:List Frame}{w:World}{cap:Nat}{ao:Option Addr}{v:Int}{L:List OpD}
theorem zsj(hv:zcm v)(hops:OpsIn w ao L.length cap L)(hnil:ao=none→cap=0)(hL:L.length≤1000000000)(h:∀fr w',LeftW w w'→fr.fn=8→fr.leaving Try.prog w' (.returned (.bool true))→RM Try.prog Z (G fr cs) w'):RM Try.prog Z (G (Frame.enter Try.prog 8 #[.int .i64 v,.slice ao L.length cap] .normal) cs) w:=by
 rw[enter_at _ Try.func8 rfl];simp only[Try.ntmps8,yan,yau,yav,Nat.reduceAdd,Nat.reduceSub,yao,
   yap,yaq,yar,yas,yat]
 obtain⟨n,hn⟩:∃n,L.length=n:=⟨_,rfl⟩;rw[hn];replace hops:=yay hops;replace hL:=yay hL;replace hn:=yay hn;replace h:=yay h;have I:LeftW w w := .refl;refine zas (c:=c8) rm_xc rfl fun R0 qv=>?_;rw[show cA c8=Code.region _ _ _ from rfl]
 refine zbn zut (zac zag (by kernel_rfl)) rfl (zaa Try.func8) rfl fun wp hp=>?_;replace hp:=yay hp
 go_wp2_with fail
 refine fun w1 h1=>?_;replace I:=I.trans ((LeftW.of_sim hp.out.heap hp.out.outs).sim h1);clear h1 hp wp;obtain rfl:=qv.out;clear qv;refine zas (c:=cB c8) rm_xc rfl fun R0 qv=>?_;rw[show cA (cB c8)=Code.seq _ _ from rfl]
 refine zaf rm_xc fun R1 qs=>?_;refine zid rm_xc ?_;refine zap rm_xc rfl rfl (by decide) rfl Try.func29 (by kernel_rfl) (by kernel_rfl) ?_;walk_nrm;refine zsa fun w2 L2=>?_;replace I:=I.trans L2;clear L2;rw[Frame.finish_at];walk_nrm;refine zd0 1 1 (by decide) (by decide) (zai (by kernel_rfl)) fun wp hp=>?_;simp only[yaf,yag,yad,yae];replace hp:=yay hp
 go_wp2_with fail
 refine zbp rfl fun w3 h1=>?_;replace I:=I.trans ((LeftW.of_sim hp.out.heap hp.out.outs).sim h1);clear h1 hp wp;refine zad rm_xc ?_;obtain rfl:=qs.out;clear qs;refine zau rm_xc (t:=false) rfl ?_;refine zbf rm_xc ?_;obtain rfl:=qv.out;clear qv;rw[zh8 _ rfl];have qm:=hops.out.keep I.same;rw[hn.out] at qm;refine own8 (cap:=cap) (ao:=ao) (L:=L) (by rw[hn.out];exact qm) hnil hL.out rfl (by rw[hn.out];rfl) fun y vp vc w4 hy y5 hO L4=>?_;replace I:=I.trans L4;clear L4 qm hops;have y0:y 0 = .int .i64 v:=(hy 0 (by decide)).trans rfl;clear hy;have wT:Hid (n≤1000000000):=yay (by rw[←hn.out];exact hL.out);generalize wI:L.map zer=Lz at *;have wV:Lz.length=n:=by rw[←wI,List.length_map];exact hn.out
 have j2:∀o∈Lz,o.a=0:=by rw[←wI];exact z6j
 rw[hn.out] at y5;rw[wV] at hO;replace hn:=yay wV;clear wV wI;replace hL:=wT;refine zas (c:=D8) rm_xc rfl fun R0 qv=>?_;rw[show cA D8=Code.region _ _ _ from rfl]
 unfold A8;simp only[y0,y5];refine zbn z6z (zac zag (by kernel_rfl)) rfl (zaa Try.func8) rfl fun wp hp=>?_;have Lp:LeftW w4 wp := .of_sim hp.heap hp.outs;have La:LeftW w4 ((wp.alloc (.cells #[.int .i64 v] 2)).alloc (.cells #[.slice vp n vc] 34)):=(Lp.alloc _).alloc _;have s1:(wp.alloc (.cells #[.int .i64 v] 2)).heap.size=wp.heap.size+1:=by simp
 have ja:((wp.alloc (.cells #[.int .i64 v] 2)).alloc (.cells #[.slice vp n vc] 34)).heap[wp.heap.size]?=some (.cells #[.int .i64 v] 2 (0,0)):=(Below.heap_alloc _ _ _ (by rw[s1];omega)).trans (heap_alloc_new _ _);have hrow:((wp.alloc (.cells #[.int .i64 v] 2)).alloc (.cells #[.slice vp n vc] 34)).heap[(wp.alloc (.cells #[.int .i64 v] 2)).heap.size]?=some (.cells #[.slice vp n vc] 34 (0,0)):=heap_alloc_new _ _;have qu:=hO.keep La.same;have hW:IntsIn ((wp.alloc (.cells #[.int .i64 v] 2)).alloc (.cells #[.slice vp n vc] 34)) (.slice (some ⟨wp.heap.size,0,none⟩) 1 1) [v] :=
  ⟨fun x hx=>by rw[yaj.1 hx];exact hv,_,_,rfl,yax _,fun _=>⟨_,0,rfl,fun j x hj=>by
   rcases j with _|j
   ·obtain rfl:v=x:=by simpa using hj
    exact zab ja 0
   ·simp at hj⟩⟩
 have hT:ThrIn ((wp.alloc (.cells #[.int .i64 v] 2)).alloc (.cells #[.slice vp n vc] 34)) (.slice (some ⟨(wp.alloc (.cells #[.int .i64 v] 2)).heap.size,0,none⟩) 1 1) [Lz]:=by
  refine⟨_,_,rfl,fun _=>vp,fun _=>n,fun _=>vc,fun _=>⟨_,0,rfl,fun i X hi=>?_⟩,fun i X hi=>?_⟩
  ·rcases i with _|i
   ·exact zab hrow 0
   ·simp at hi
  ·rcases i with _|i
   ·obtain rfl:Lz=X:=by simpa using hi
    exact qu
   ·simp at hi
 have qy:∀W:World,IntsIn W (.slice none 0 0) []:=fun W=>⟨fun _ h=>(by cases h),none,0,rfl,yax _,fun h=>absurd rfl h⟩;have HR:=yay (Cl.refM_walkC (most:=1048576) hW hT (qy _) (by simp) (by simp) (by simp));rw[Cl.trM_eq (fun x hx=>by rw[yaj.1 hx];exact hv) (fun X hX o ho=>by rw[yaj.1 hX] at ho;exact hO.1 o ho),z1x j2] at HR;obtain⟨L',wN⟩:∃L',L'=Lz.take 65536:=⟨_,rfl⟩;rw[←wN] at HR;rw[s1] at HR;generalize q9:(⟨[ztz (stC [v]) L'],List.replicate (zf0 (stC [v]) L') 0,ze9 1 (zo2 (stC [v]) L'),false⟩:Tr)=T at HR;replace q9:=yay q9;clear hT qu hrow qy Lp hW ja;replace s1:=yay s1;replace hp:=yay hp;replace La:=yay La;replace hO:=yay hO
 go_wp2_with (go_at_call 31;(try rw[s1.out]);refine HR.out.mono ?_;rintro e w6 ⟨v,rfl,qW,hB,hC⟩;obtain⟨va,vo,vs,e9,⟨pa,ca,wz,ha⟩,⟨po,co,e11,ho⟩,⟨ps,cst,e12,hs⟩⟩:=qW;subst e9;subst wz;subst e11;subst e12;replace hB:=yay hB;replace ha:=yay ha;replace ho:=yay ho;replace hs:=yay hs;clear hC)
 refine fun w5 h1=>?_;obtain⟨N,wu⟩:∃N,w6.heap.size=N:=⟨_,rfl⟩;have wl:w5.heap[N]?=some (.cells #[.slice pa T.ans.length ca,.slice po T.ord.length co,.slice ps T.st.length cst,.bool T.stuck] 31 (0,0)):=by rw[h1.heap,←wu];exact heap_alloc_new _ _
 have wG:LeftW w6 w5:=(LeftW.refl.alloc _).sim h1;have L45:LeftW w4 w5:=(La.out.trans (zly hB.out)).trans wG;have L5:LeftW w w5:=I.trans L45;have je:TrIn w6 (.agg #[.slice pa T.ans.length ca,.slice po T.ord.length co,.slice ps T.st.length cst,.bool T.stuck]) T:=⟨_,_,_,rfl,⟨pa,ca,rfl,ha.out⟩,⟨po,co,rfl,ho.out⟩,⟨ps,cst,rfl,hs.out⟩⟩;obtain⟨va',vo',vs',eV,jm,jB,qO⟩:=je.keep wG.same;simp only[Value.agg.injEq,Array.mk.injEq,List.cons.injEq] at eV;obtain⟨rfl,rfl,rfl,-⟩:=eV;have qX:=yay (hO.out.keep L45.same);rw[wu];clear h1 wu wG je ha ho hs hB La HR hp hO I jB L45 w6;obtain rfl:=qv.out;clear qv;obtain⟨ol,qg⟩:∃b,T.ord.length=b:=⟨_,rfl⟩;obtain⟨al,q7⟩:∃b,T.ans.length=b:=⟨_,rfl⟩;obtain⟨sl,qQ⟩:∃b,T.st.length=b:=⟨_,rfl⟩;obtain⟨stk,qJ⟩:∃b,T.stuck=b:=⟨_,rfl⟩;rw[qJ,qg,q7,qQ];rw[qJ,qg,q7,qQ] at wl;rw[qQ] at qO;rw[q7] at jm;have hT:=q9.out;clear q9;subst hT;have qR:zf0 (stC [v]) L'=ol:=by rw[←qg];simp
 obtain rfl:(1:Nat)=al:=by rw[←q7];rfl
 obtain rfl:(3:Nat)=sl:=by rw[←qQ];rfl
 obtain⟨pa',ca',eA,qA⟩:=jm;simp only[Value.slice.injEq] at eA;obtain⟨rfl,-,rfl⟩:=eA;obtain⟨ba,oa,rfl,qA1⟩:=qA (by simp);obtain⟨ua,wW,qD⟩:=qA1 0 _ rfl;have j9:=qO;obtain⟨ps',cs',eS,qS⟩:=j9;simp only[Value.slice.injEq] at eS;obtain⟨rfl,-,rfl⟩:=eS;obtain⟨bs,os,rfl,-⟩:=qS (by rw[zmx];simp);rw[zmx] at qO;have n0:=zab wl 0;simp only[yac,yaa] at n0;clear qA qA1 qS qg q7 qQ qJ;generalize wp.heap.size=wps;clear wp s1;rw[zh8 _ rfl];obtain⟨M,hM⟩:∃M,w5.heap.size=M:=⟨_,rfl⟩;refine zas (c:=cB D8) rm_xc rfl fun R0 qv=>?_;refine z65 (v:=v) hM rfl fun y1 w6 wh y8 A s6=>?_;obtain rfl:=qv.out;clear qv;refine zas (c:=cB (cB D8)) rm_xc rfl fun R0 qv=>?_;refine z45 (v:=v) s6 ((wh 0 (by decide) (by decide)).trans rfl) fun y2 w7 wm y9 B s7=>?_;obtain rfl:=qv.out;clear qv;have z5:=(wm 5 (by decide) (by decide)).trans ((wh 5 (by decide) (by decide)).trans rfl);have z7:=(wm 7 (by decide) (by decide)).trans ((wh 7 (by decide) (by decide)).trans rfl);have z8:=(wm 8 (by decide) (by decide)).trans y8;refine zas (c:=cB (cB (cB D8))) rm_xc rfl fun R0 qv=>?_;rw[show cA (cB (cB (cB D8)))=Code.region _ _ _ from rfl]
 unfold A8;simp only[z5,z7,z8,y9];clear wh wm y8 z5 z7 z8 y9;refine zbn zut (zac zag (by kernel_rfl)) rfl (zaa Try.func8) rfl fun wp hp=>?_;have sp:wp.heap.size=M+10:=by rw[hp.heap];omega
 replace hp:=yay hp;replace sp:=yay sp
 go_wp2_with fail
 refine fun w8 h1=>?_;have L8:LeftW w7 w8:=((LeftW.of_sim hp.out.heap hp.out.outs).alloc _).sim h1;have jt:w8.heap[M+10]?=some (zym 0):=by rw[h1.heap,←sp.out];exact heap_alloc_new _ _
 rw[sp.out];have J:=z2y hv hM A B rfl L8 jt;clear h1 hp sp L8 jt A B s6 s7;generalize zyl M (M+1) (M+2) (M+3)=oz at J;generalize zyl (M+5) (M+6) (M+7) (M+8)=ow at J;obtain rfl:=qv.out;clear qv wp;refine zas (c:=cB (cB (cB (cB D8)))) rm_xc rfl fun R0 qv=>?_;rw[show cA (cB (cB (cB (cB D8))))=Code.seq _ _ from rfl]
 refine zaf rm_xc fun R1 qs=>?_;have wD:=yay wl;have L5':=yay L5;clear wl L5;replace qO:=yay qO;replace qD:=yay qD;replace wW:=yay wW;replace n0:=yay n0;refine zbn zut (zac zag (by kernel_rfl)) rfl (zaa Try.func8) rfl fun wp hp=>?_;have ga:=(congrArg (·[M+4]?) hp.heap).trans (J.ex (M+4) _ (List.mem_cons_self ..)).at_;have gb:=(congrArg (·[M+9]?) hp.heap).trans (J.ex (M+9) _ (List.mem_cons_of_mem _ (List.mem_cons_self ..))).at_;unfold thO gpv at ga gb;have a0:=zab ga 0;have a1:=zab ga 1;have a2:=zab ga 2;have b0:=zab gb 0;have b1:=zab gb 1;have b2:=zab gb 2;simp only[yac,yaa,yab] at a0 a1 a2 b0 b1 b2;have j8:∀(b:Nat) (w:World),(binOp .eql 73 (.pointer (some ⟨b,0,none⟩)) (.pointer none)).run Try.prog w = .ok (.bool false) w:=fun b w=>by rfl
 have jF:∀(b:Nat) (w:World),(binOp .eql 75 (.pointer (some ⟨b,0,none⟩)) (.pointer none)).run Try.prog w = .ok (.bool false) w:=fun b w=>by rfl
 have jw:∀(b:Nat) (w:World),(binOp .eql 77 (.pointer (some ⟨b,0,none⟩)) (.pointer none)).run Try.prog w = .ok (.bool false) w:=fun b w=>by rfl
 replace hp:=yay hp;clear ga gb;replace J:=yay J
 go_wp2_with fail
 refine fun w9 h1=>?_;replace J:=J.out.sim (h1.heap.trans hp.out.heap) ⟨h1.outs.1.trans hp.out.outs.1,h1.outs.2.trans hp.out.outs.2⟩;clear h1 hp a0 a1 a2 b0 b1 b2 wp j8 jF jw;obtain rfl:=qs.out;clear qs;refine zau rm_xc (t:=false) rfl ?_;refine zbf rm_xc ?_;obtain rfl:=qv.out;clear qv;refine zas (c:=zk2) rm_xc rfl fun R0 qv=>?_;rw[show cA zk2=Code.seq _ _ from rfl]
 refine zaf rm_xc fun R1 qs=>?_;refine zbn zut (zac zag (by kernel_rfl)) rfl (zaa Try.func8) rfl fun wp hp=>?_;replace hp:=yay hp;replace J:=yay J
 go_wp2_with fail
 refine fun j7 h1=>?_;replace J:=J.out.sim (h1.heap.trans hp.out.heap) ⟨h1.outs.1.trans hp.out.outs.1,h1.outs.2.trans hp.out.outs.2⟩;clear h1 hp wp;obtain rfl:=qs.out;clear qs;refine zce rm_xc ?_;refine zhn rm_xc ?_;rw[zh8 _ rfl];have hL9:=hL.out;refine zsk (P:=⟨M,M+1,M+2,M+5,M+6,M+7,M+10⟩) (X:=[(M+4,thO M (M+1) (M+2)),(M+9,thO (M+5) (M+6) (M+7))]) (ka:=M+4) (kb:=M+9) (L:=Lz) (L':=L') (s0:=stC [v]) (cap:=vc) (ao:=vp) (by rw[hn.out];exact qX.out) (by rw[hn.out];omega) wN (List.mem_cons_self ..) (List.mem_cons_of_mem _ (List.mem_cons_self ..)) n0.out wW.out qD.out (fun x oz ow w11 hx J=>?_) (min Lz.length 1000) 0 (by omega) _ oz ow j7 (by rw[hn.out];exact⟨rfl,rfl,rfl,rfl,rfl,rfl⟩) J;obtain rfl:=qv.out;clear qv;have lJ:=J.ks.ns.l;refine end8 (P:=⟨M,M+1,M+2,M+5,M+6,M+7,M+10⟩) (X:=[(M+4,thO M (M+1) (M+2)),(M+9,thO (M+5) (M+6) (M+7))]) (ka:=M+4) (kb:=M+9) (n:=n) (cap:=vc) (ao:=vp) (s:=zo2 (stC [v]) L') (oz:=oz) (ow:=ow) (by have:=hx;rw[hn.out] at this;exact this) (by omega) (List.mem_cons_self ..) (List.mem_cons_of_mem _ (List.mem_cons_self ..)) wD.out qO.out (fun hle=>?_) lJ fun fr j4 l hf hl=>h.out fr j4 (L5'.out.trans l) hf hl;have e1:min Lz.length 1000=Lz.length:=by have:=hn.out;omega
 have e2:L'=Lz:=by rw[wN];exact List.take_of_length_le (by have:=hn.out;omega)
 rw[e1,List.take_of_length_le (yax _),←e2] at J;refine⟨_,qR,?_,J⟩;have:=zkz L' (stC [v]);rw[e2] at this;have:=hn.out;rw[e2] at qR;omega
end
end Go.Proofs.Ytofacoojpgkbiaa
