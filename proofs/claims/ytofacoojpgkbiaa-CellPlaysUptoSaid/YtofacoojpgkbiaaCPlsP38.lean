/-
  A part of a proof. No condition of its own.
-/
import Derived.Test.YtofacoojpgkbiaaCPlsP33
import Derived.Test.YtofacoojpgkbiaaCPlsP37
set_option linter.unusedVariables false
set_option maxHeartbeats 8000000
set_option linter.unusedSimpArgs false
namespace Go.Proofs.Ytofacoojpgkbiaa.Cl
open Go.Conc Go.RowKit
open Go.ConcN (upd upd_ne upd_same)
set_option maxRecDepth 100000
theorem zxv:(Try.prog.info? 264).map (fun i=>(i.zero,i.size,i.bytes))=some (some (.agg #[.slice none 0 0,.slice none 0 0,.int .i64 0,.int .i64 0,.int .i64 0,.int .i64 0,.int .i64 0]),7,88):=by kernel_rfl
def RB (w0:World) (mb:Nat) (n:Nat) (S:GMc) (wr:World):Prop :=
 ∃ K va vT,K.w0=w0∧K.base=mb∧K.mb=mb∧K.k≤65536∧K.n=n∧MPre K va S vT wr
theorem NewM.rb {w0 w:World} {mb:Nat} {vC:Value} {l:List Int} (h:NewM w0 mb vC l (min l.length 65536) w):RB w0 mb 0 (zi6 l) w:=by
 have key:∀ (ca:Option Addr) (cb cN:Nat),vC = .slice ca (min l.length 65536) cN→(0 < min l.length 65536→ca=some ⟨cb,0,none⟩∧mb≤cb∧TRow 262 4 cb (min l.length 65536) cN (ccV (zi6 l)) w)→RB w0 mb 0 (zi6 l) w:=fun ca cb cN e hc =>
  ⟨⟨w0,mb,mb,cb,0,0,min l.length 65536,cN,0,ca,fun _=>undef⟩,fun _=>undef,.slice none 0 0,rfl,rfl,rfl,Nat.min_le_right _ _,rfl,
   ⟨by have:=h.mach;rw [e] at this;exact this,rfl,hc,⟨[],World.ownsRow_nil _ _ _ _,fun i hi=>absurd hi (Nat.not_lt_zero _)⟩,fun i hi=>absurd hi (Nat.not_lt_zero _),fun i j hi=>absurd hi (Nat.not_lt_zero _),fun i hi=>absurd hi (Nat.not_lt_zero _),h.low,yax _,h.bs,Nat.zero_le _⟩⟩
 rcases h.row.2 with ⟨e,q⟩|⟨g,cap,cur,e,q1,q2,q3,q4,q5,q6⟩
 ·exact key none 0 0 (by rw [e,q]) fun z=>by omega
 ·refine key _ g cap e fun _=>⟨rfl,q1,⟨cur,q2,q3,q4,q5,fun i hi k hk=>?_⟩⟩;have:cur[i * 4+k]?=(zja l (min l.length 65536))[i * 4+k]?:=by
   rw [← q6,List.getElem?_take_of_lt (by omega),Array.getElem?_toList]
  rw [this];exact zl9 l _ hi hk
theorem src_thr (w1:World) {vs:List Value} (h9:vs.length=7) (h1:∀ u∈vs,u.oneCell'=true):SrcV (w1.alloc (.cells vs.toArray 264)) (.slice (some ⟨w1.heap.size,0,none⟩) 1 1) 1 vs :=
 ⟨by omega,h1,.inr ⟨_,1,rfl,fun j u hj=>by
  have e:(⟨w1.heap.size,0,none⟩:Addr).add j=⟨w1.heap.size,j,none⟩:=by simp [Addr.add];try (intro h;exact h.symm)
  rw [e,zab (heap_alloc_new w1 (.cells vs.toArray 264)) j]
  simpa using hj⟩⟩
theorem tcV_one {a:Option Addr} {n c i:Nat} {L:List OpD}:∀ u∈tcV (.slice a n c) (.slice none 0 0) i (zct L),u.oneCell'=true:=by
 intro u hu;simp only [tcV,List.mem_cons,List.not_mem_nil,or_false] at hu;rcases hu with rfl|rfl|rfl|rfl|rfl|rfl|rfl<;>rfl
section
variable {K:MK} {va:Nat→Value} {S:GMc} {wr:World} {vT:Value}
theorem zpk (hk9:K.k≤65536) (hM:MPre K va S vT wr) (hn:K.n < 64) (hbm:K.base=K.mb) {vo:Value} {L:List OpD} (hvo:zjf K.w0 vo L) (hL:L.length≤65536) {xs:List Value} (hrow:wr.ownsRow K.base 264 7 vT K.n xs) (hxs:∀ i,i < K.n→∀ k,k < 7→xs[i * 7+k]?=(tcV (K.vo i) (va i) i (S.T i))[k]?)
  (v':Value) (w2:World) (hA:zlc (wr.alloc (.cells (tcV vo (.slice none 0 0) K.n (zct L)).toArray 264)) K.base 264 vT K.n 1 (xs++tcV vo (.slice none 0 0) K.n (zct L)) v' w2) :
  ∃ p c,v' = .slice p (K.n+1) c∧w2.heap[K.mb]?=wr.heap[K.mb]? ∧
   Calls Try.prog 148 #[.pointer (some ⟨K.mb,0,none⟩),.int .i64 K.n] (w2.setCell ⟨K.mb,1,none⟩ v') fun e w'=>e = .returned (.tuple #[])∧RB K.w0 K.mb (K.n+1) (zbh { S with T:=upd S.T K.n (zct L) } K.n) w'∧KeepM wr w':=by
 obtain ⟨ho,hg,hsh⟩:=hA;obtain ⟨hM1,k1⟩:=hM.alloc (.cells (tcV vo (.slice none 0 0) K.n (zct L)).toArray 264);obtain ⟨m1,m2,m3⟩:=hM1.more (vT':=v') (w2:=w2) hn (hrow.alloc _) hxs hvo ho hg (fun g hgg=>by
  rcases hsh with ⟨e1,_⟩|⟨g',cap,e1,_,e3⟩
  ·rw [e1] at hgg;cases hgg
  ·rw [e1] at hgg;simp only [Value.ownBlock,Option.some.injEq] at hgg;subst hgg;exact e3)
 obtain ⟨p,c,e⟩:=zbb ho;refine ⟨p,c,e,m1.trans (Below.heap_alloc _ _ _ (yah.1 hM.mach).1),?_⟩;obtain ⟨tb,cap,_,hmem⟩:=m2.mem (Nat.succ_pos _);have hT:({ S with T:=upd S.T K.n (zct L) }:GMc).T K.n=zct L:=upd_same _ _ _;have:=zkl (i:=K.n) hmem (Nat.lt_succ_self _) (by rw [hT];exact hL) (by rw [hT];exact Nat.zero_le _) (by rw [hT];exact yax _);refine this.mono fun e w' ⟨h1,V',h2,h3⟩=>⟨h1,⟨{ K with n:=K.n+1,vo:=upd K.vo K.n vo,tb:=tb,cap:=cap },V',_,rfl,hbm,rfl,hk9,rfl,h2.pre⟩,k1.trans (m3.trans h3)⟩
end
section
variable {w0 w w' w2:World} {mb n i:Nat} {S:GMc}
theorem RB.step (h:RB w0 mb n S w) (hI:GInv n S) (hi:i < n) (hp:0 < (S.T i).pc) (hs:S.N≤4611686018427387904):Calls Try.prog 149 #[.pointer (some ⟨mb,0,none⟩),.int .i64 i] w fun e w'=>e = .returned (.tuple #[])∧RB w0 mb n (zcx S i) w'∧KeepM w w':=by
 obtain ⟨K,V,vT,e1,e2,e3,e4,e5,hM⟩:=h;subst e1 e3 e5;obtain ⟨tb,cap,_,hm⟩:=hM.mem (by omega);have:=ztv (i:=i) hm hi (hI.th i hi) ((hI.th i hi).pc.resolve_left (by omega)) ⟨hI.n0,hs⟩;exact this.mono fun e w' ⟨h1,V',h2,h3⟩=>⟨h1,⟨{ K with tb:=tb,cap:=cap },V',_,rfl,e2,rfl,e4,rfl,h2.pre⟩,h3⟩
theorem RB.settle (h:RB w0 mb n S w) (hI:GInv n S) (hi:i < n):Calls Try.prog 148 #[.pointer (some ⟨mb,0,none⟩),.int .i64 i] w fun e w'=>e = .returned (.tuple #[])∧RB w0 mb n (zbh S i) w'∧KeepM w w':=by
 obtain ⟨K,V,vT,e1,e2,e3,e4,e5,hM⟩:=h;subst e1 e3 e5;obtain ⟨tb,cap,_,hm⟩:=hM.mem (by omega);have:=zkl (i:=i) hm hi (hI.th i hi).ops (hI.th i hi).at_ (Nat.le_of_eq (hI.th i hi).ans);exact this.mono fun e w' ⟨h1,V',h2,h3⟩=>⟨h1,⟨{ K with tb:=tb,cap:=cap },V',_,rfl,e2,rfl,e4,rfl,h2.pre⟩,h3⟩
theorem RB.left (h:RB w0 mb n S w):Calls Try.prog 150 #[.pointer (some ⟨mb,0,none⟩)] w fun e w'=>e = .returned (.bool (zeh S n))∧w'=w:=by
 obtain ⟨K,V,vT,e1,e2,e3,e4,e5,hM⟩:=h;subst e1 e3 e5;exact zsu hM
theorem RB.state (h:RB w0 mb n S w):Calls Try.prog 151 #[.pointer (some ⟨mb,0,none⟩)] w fun e w'=>∃ v,e = .returned v∧w'.ownsRow w.heap.size 2 1 v (zdq S).length (zdl (zdq S))∧Below w.heap.size w w':=by
 rw [show (zdq S).length=3 * S.k from zo1 _ _ _ _]
 obtain ⟨K,V,vT,e1,e2,e3,e4,e5,hM⟩:=h;subst e1 e3 e5;exact zpx hM e4
theorem RB.grown {e k:Nat} {v:Value} {xs:List Value} (h:RB w0 mb n S w) (hr:w.ownsRow mb e 1 v k xs) (hg:w.grownBy w2 v.ownBlock) (he:e≠260∧e≠264∧e≠42∧e≠262):RB w0 mb n S w2:=by
 obtain ⟨K,V,vT,e1,e2,e3,e4,e5,hM⟩:=h;have hs:=hM.size;have hl:=hM.low;rw [e2] at hs hl;refine ⟨K,V,vT,e1,e2,e3,e4,e5,hM.keepT (fun b c t hb ht=>?_) ?_⟩
 ·refine (hg.block b (yah.1 hb).1 fun z=>?_).trans hb;obtain ⟨cc,hcc⟩:=zah hr z.symm;rw [hb] at hcc;simp at hcc;obtain ⟨_,rfl⟩:=hcc;rcases ht with q|q|q|q
  ·exact he.1 q
  ·exact he.2.1 q
  ·exact he.2.2.1 q
  ·exact he.2.2.2 q
 ·rw [e2];exact zdw hr hl hs hg
theorem RB.alloc (h:RB w0 mb n S w) (o:Obj):RB w0 mb n S (w.alloc o):=by
 obtain ⟨K,V,vT,e1,e2,e3,e4,e5,hM⟩:=h;exact ⟨K,V,vT,e1,e2,e3,e4,e5,(hM.alloc o).1⟩
theorem RB.below {N:Nat} (h:RB w0 mb n S w) (hb:Below N w w') (hN:w.heap.size=N):RB w0 mb n S w':=by
 obtain ⟨K,V,vT,e1,e2,e3,e4,e5,hM⟩:=h;exact ⟨K,V,vT,e1,e2,e3,e4,e5,hM.below hb hN⟩
theorem RB.put {b k:Nat} {c:Array Value} {t:TypeId} (h:RB w0 mb n S w) (hb:w.heap[b]?=some (.cells c t (0,0))) (ht:t≠260∧t≠264∧t≠42∧t≠262) (hlo:mb≤b) (v:Value):RB w0 mb n S (w.setCell ⟨b,k,none⟩ v):=by
 obtain ⟨K,V,vT,e1,e2,e3,e4,e5,hM⟩:=h;have hl:=hM.low;refine ⟨K,V,vT,e1,e2,e3,e4,e5,hM.keepT (fun b' c' t' hb' ht'=>?_) (hl.setCell (by rw [e2];exact hlo) _)⟩;refine (Below.heap_setCell _ _ _ _ fun z=>?_).trans hb';rw [z,hb] at hb';simp at hb';obtain ⟨_,rfl⟩:=hb';rcases ht' with q|q|q|q
 ·exact ht.1 q
 ·exact ht.2.1 q
 ·exact ht.2.2.1 q
 ·exact ht.2.2.2 q
theorem RB.mach (h:RB w0 mb n S w):∃ tp tc,w.cell? ⟨mb,1,none⟩=some (.slice tp n tc):=by
 obtain ⟨K,V,vT,e1,e2,e3,e4,e5,hM⟩:=h;subst e1 e3 e5;obtain ⟨xs,hr,_⟩:=id hM.row;obtain ⟨tp,tc,rfl⟩:=zbb hr;exact ⟨tp,tc,hM.cellM 1⟩
theorem RB.see (h:RB w0 mb n S w) (hi:i < n):∃ tb tc va,w.cell? ⟨mb,1,none⟩=some (.slice (some ⟨tb,0,none⟩) n tc)∧w.cell? ⟨tb,i * 7+4,none⟩=some (.int .i64 (S.T i).pc)∧w.cell? ⟨tb,i * 7+1,none⟩=some va∧AnsM mb w va (S.T i).ans:=by
 obtain ⟨K,V,vT,e1,e2,e3,e4,e5,hM⟩:=h;obtain ⟨tb,cap,e,hm⟩:=hM.mem (by omega);subst e1 e3 e5;refine ⟨tb,cap,V i,?_,hm.cellT hi (k:=4) (by decide),hm.cellT hi (k:=1) (by decide),by rw [← e2];exact hm.ans i hi⟩;rw [← e];exact hM.cellM 1
theorem RB.kept (h:RB w0 mb n S w) (k:KeepM w w') {R0:Nat} {cs:Array Value} {t:TypeId} (hR:w.heap[R0]?=some (.cells cs t (0,0))) (ht:t≠260∧t≠264∧t≠42∧t≠262):w'.heap[R0]?=some (.cells cs t (0,0)) :=
 k R0 _ _ hR ht.1 ht.2.2.2 ht.2.1 ht.2.2.1
theorem RB.low (h:RB w0 mb n S w):w0.heap.size=mb∧Below mb w0 w:=by
 obtain ⟨K,V,vT,e1,e2,e3,e4,e5,hM⟩:=h;have h1:=hM.bs;have h2:=hM.low;rw [e1,e2] at h1 h2;exact ⟨h1,h2⟩
end
def ZR:Array Value:=#[.slice none 0 0,.slice none 0 0,.slice none 0 0,.bool false]
structure RunAt (w0:World) (mb n R0:Nat) (S:GMc) (ord:List Int) (vo:Value) (w:World):Prop where
 rb:RB w0 mb n S w
 row:w.ownsRow mb 3 1 vo ord.length (zdl ord)
 res:w.heap[R0]?=some (.cells ZR 31 (0,0))
section
variable {w0 w w' w2:World} {mb n R0 i:Nat} {S:GMc} {ord:List Int} {vo:Value}
theorem RunAt.push (h:RunAt w0 mb n R0 S ord vo w) {x:Int} {v':Value} (hA:zdp (w.alloc (.cells #[.int .i64 x] 3)) mb 3 vo ord.length 1 (zdl ord++[.int .i64 x]) v' w2):RunAt w0 mb n R0 S (ord++[x]) v' w2:=by
 obtain ⟨ho,hg,hsh⟩:=hA;have hr:=h.row.alloc (.cells #[.int .i64 x] 3);refine ⟨(h.rb.alloc _).grown hr hg (by decide),?_,?_⟩
 ·rw [List.length_append,zsv];exact ho
 ·have hR:(w.alloc (.cells #[.int .i64 x] 3)).heap[R0]?=some (.cells ZR 31 (0,0)):=(Below.heap_alloc _ _ _ (yah.1 h.res).1).trans h.res;refine (hg.block R0 (yah.1 hR).1 fun z=>?_).trans hR;obtain ⟨cc,hcc⟩:=zah hr z.symm;rw [hR] at hcc;simp at hcc
theorem RunAt.kept (h:RunAt w0 mb n R0 S ord vo w) {S':GMc} (hb:RB w0 mb n S' w') (k:KeepM w w'):RunAt w0 mb n R0 S' ord vo w' :=
 ⟨hb,k.row h.row (by decide) (by decide) (by decide) (by decide),h.rb.kept k h.res (by decide)⟩
theorem RunAt.step (h:RunAt w0 mb n R0 S ord vo w) (hI:GInv n S) (hi:i < n) (hp:0 < (S.T i).pc) (hs:S.N≤4611686018427387904):Calls Try.prog 149 #[.pointer (some ⟨mb,0,none⟩),.int .i64 i] w fun e w'=>e = .returned (.tuple #[])∧RunAt w0 mb n R0 (zcx S i) ord vo w' :=
 (h.rb.step hI hi hp hs).mono fun e w' ⟨a,b,c⟩=>⟨a,h.kept b c⟩
theorem RunAt.settle (h:RunAt w0 mb n R0 S ord vo w) (hI:GInv n S) (hi:i < n):Calls Try.prog 148 #[.pointer (some ⟨mb,0,none⟩),.int .i64 i] w fun e w'=>e = .returned (.tuple #[])∧RunAt w0 mb n R0 (zbh S i) ord vo w' :=
 (h.rb.settle hI hi).mono fun e w' ⟨a,b,c⟩=>⟨a,h.kept b c⟩
end
theorem info40r:(Try.prog.info? 40).map (fun i=>(i.zero,i.size,i.bytes))=some (some (.slice none 0 0),1,24):=by kernel_rfl
theorem info3r:(Try.prog.info? 3).map (fun i=>(i.zero,i.size,i.bytes))=some (some (.int .i64 0),1,8):=by kernel_rfl
theorem zxk {n j:Nat} (h:j < n):(zs5 n)[j]?=some (.slice none 0 0):=by unfold zs5;rw [List.getElem?_replicate,if_pos h]
theorem AnsM.ansIn {base:Nat} {w:World} {v:Value} {l:List Ans} (h:AnsM base w v l):AnsIn w v l:=by
 have hr:=h.row;rcases hr.2 with ⟨e,q⟩|⟨g,cap,cur,e,q1,q2,q3,q4,q5,q6⟩
 ·rw [e];exact ⟨none,0,by rw [q],fun hne=>absurd (List.length_eq_zero_iff.1 q) hne⟩
 ·refine ⟨_,cap,e,fun hne=>⟨g,0,rfl,fun j r hj=>?_⟩⟩;have hlt:=(yai.1 hj).1;obtain ⟨f0,f1,f2⟩:=zf7 l (zs5 l.length) j r _ hj (zxk hlt);have cg:∀ k,k < 3→cur[j * 3+k]?=(zei l (zs5 l.length))[j * 3+k]?:=fun k hk=>by
   rw [← q6,List.getElem?_take_of_lt (by omega),Array.getElem?_toList]
  refine ⟨?_,?_,.slice none 0 0,?_,⟨none,0,by rw [h.nil r (List.mem_of_getElem? hj)];rfl,fun hne=>absurd (h.nil r (List.mem_of_getElem? hj)) hne⟩⟩
  ·rw [zab q2,Nat.zero_add];exact (cg 0 (by omega)).trans f0
  ·rw [zab q2,Nat.zero_add];exact (cg 1 (by omega)).trans f1
  ·rw [zab q2,Nat.zero_add];exact (cg 2 (by omega)).trans f2
theorem AnsM.keepT {base:Nat} {w w':World} {v:Value} {l:List Ans} (h:AnsM base w v l) (hk:∀ (b:Nat) (c:Array Value) (t:TypeId),w.heap[b]?=some (Obj.cells c t (0,0))→t=42∨t=2→w'.heap[b]?=some (Obj.cells c t (0,0))):AnsM base w' v l :=
 h.keep fun g hg=>by
  obtain ⟨cc,hcc⟩:=zah h.row hg;exact (hk _ _ _ hcc (by simp)).trans hcc.symm
theorem AnsM.slice {base:Nat} {w:World} {v:Value} {l:List Ans} (h:AnsM base w v l):∃ p c,v = .slice p l.length c:=zbb h.row
structure TrO (w0:World) (mb n R0 R1:Nat) (S:GMc) (ord:List Int) (vo vst:Value) (st:Bool) (j:Nat) (v:Value) (w:World):Prop where
 rb:RB w0 mb n S w
 rord:w.ownsRow mb 3 1 vo ord.length (zdl ord)
 rst:w.ownsRow mb 2 1 vst (zdq S).length (zdl (zdq S))
 res:w.heap[R0]?=some (.cells ZR 31 (0,0))
 blk:w.heap[R1]?=some (.cells #[v,vo,vst,.bool st] 31 (0,0))
 ne:R0≠R1
 lo:mb≤R0∧mb≤R1
 row:∃ xs:List Value,w.ownsRow mb 40 1 v j xs∧∀ i,i < j→∃ u,xs[i]?=some u∧AnsM mb w u (S.T i).ans
section
variable {w0 w w' w2:World} {mb n R0 R1 i:Nat} {S:GMc} {ord:List Int} {vo vst v v':Value} {st:Bool} {j:Nat}
theorem RunAt.told (h:RunAt w0 mb n R0 S ord vo w) (hlo:mb≤R0) {w2:World} (hb:Below w.heap.size w w2) (hst:w2.ownsRow w.heap.size 2 1 vst (zdq S).length (zdl (zdq S))):TrO w0 mb n R0 w2.heap.size S ord vo vst st 0 (.slice none 0 0) (w2.alloc (.cells #[.slice none 0 0,vo,vst,.bool st] 31)):=by
 have hR:=(yah.1 h.res).1;have hsz:=hb.size;have hl:=h.rb.low;have hl2:=hl.2.size;refine ⟨(h.rb.below hb rfl).alloc _,?_,?_,?_,heap_alloc_new _ _,by omega,⟨hlo,by omega⟩,⟨[],World.ownsRow_nil _ _ _ _,fun i hi=>absurd hi (Nat.not_lt_zero _)⟩⟩
 ·exact World.ownsRow.alloc (zao h.row fun g o hg hh=>(hb.block g (zb0 h.row hg).2).trans hh) _
 ·have:=hst.alloc (.cells #[.slice none 0 0,vo,vst,.bool st] 31);refine ⟨this.1,?_⟩;rcases this.2 with q|⟨g,cap,cur,e,q1,q2⟩
  ·exact .inl q
  ·exact .inr ⟨g,cap,cur,e,by omega,q2⟩
 ·rw [Below.heap_alloc _ _ _ (by omega),hb.block R0 hR];exact h.res
theorem TrO.more (h:TrO w0 mb n R0 R1 S ord vo vst st j v w) {u:Value} (hu:AnsM mb w u (S.T j).ans) {xs:List Value} (hr:w.ownsRow mb 40 1 v j xs) (hx:∀ i,i < j→∃ u,xs[i]?=some u∧AnsM mb w u (S.T i).ans)
  (hA:zdp (w.alloc (.cells #[u] 40)) mb 40 v j 1 (xs++[u]) v' w2) :
  w2.heap[R1]?=some (.cells #[v,vo,vst,.bool st] 31 (0,0))∧TrO w0 mb n R0 R1 S ord vo vst st (j+1) v' (w2.setCell ⟨R1,0,none⟩ v'):=by
 obtain ⟨ho,hg,hsh⟩:=hA;have h2:=hr.alloc (.cells #[u] 40);have kp:∀ (b:Nat) (cs:Array Value) (t:TypeId),w.heap[b]?=some (Obj.cells cs t (0,0))→t≠40→w2.heap[b]?=some (Obj.cells cs t (0,0)):=fun b cs t hb ht=>by
  have hb':(w.alloc (.cells #[u] 40)).heap[b]?=some (.cells cs t (0,0)):=(Below.heap_alloc _ _ _ (yah.1 hb).1).trans hb;refine (hg.block b (yah.1 hb').1 fun z=>?_).trans hb';obtain ⟨cc,hcc⟩:=zah h2 z.symm;rw [hb'] at hcc;simp at hcc;exact ht hcc.2
 have hB:=kp _ _ _ h.blk (by decide);have hs:=zag hB 0 v';simp only [yak,yal] at hs;have k2:∀ (b:Nat) (cs:Array Value) (t:TypeId),w.heap[b]?=some (Obj.cells cs t (0,0))→t≠40→b≠R1→(w2.setCell ⟨R1,0,none⟩ v').heap[b]?=some (Obj.cells cs t (0,0)):=fun b cs t hb ht hne=>(Below.heap_setCell _ _ _ _ hne).trans (kp b cs t hb ht);have k3:∀ (b:Nat) (cs:Array Value) (t:TypeId),w.heap[b]?=some (Obj.cells cs t (0,0))→t≠40→t≠31→(w2.setCell ⟨R1,0,none⟩ v').heap[b]?=some (Obj.cells cs t (0,0)):=fun b cs t hb ht h31=>k2 b cs t hb ht fun z=>by
  rw [z,h.blk] at hb;simp at hb;exact h31 hb.2.symm
 refine ⟨hB,⟨((h.rb.alloc _).grown h2 hg (by decide)).put hB (by decide) h.lo.2 _,?_,?_,k2 _ _ _ h.res (by decide) h.ne,hs,h.ne,h.lo,xs++[u],?_,fun i hi=>?_⟩⟩
 ·exact zao h.rord fun g o hgo hh=>by
   obtain ⟨cc,hcc⟩:=zah h.rord hgo;rw [← hh,hcc];exact k3 _ _ _ hcc (by decide) (by decide)
 ·exact zao h.rst fun g o hgo hh=>by
   obtain ⟨cc,hcc⟩:=zah h.rst hgo;rw [← hh,hcc];exact k3 _ _ _ hcc (by decide) (by decide)
 ·exact zao ho fun g o hgo hh=>(Below.heap_setCell _ _ _ _ fun z=>by
   obtain ⟨cc,hcc⟩:=zah ho hgo;rw [z,hB] at hcc;simp at hcc).trans hh
 ·have hxl:xs.length=j:=by have:=hr.1;omega
  have hk:∀ (b:Nat) (cs:Array Value) (t:TypeId),w.heap[b]?=some (Obj.cells cs t (0,0))→t=42∨t=2→(w2.setCell ⟨R1,0,none⟩ v').heap[b]?=some (Obj.cells cs t (0,0)):=fun b cs t hb ht=>k3 b cs t hb (by rcases ht with z|z<;>rw [z]<;>decide) (by rcases ht with z|z<;>rw [z]<;>decide);by_cases e:i=j
  ·subst e;exact ⟨u,by rw [List.getElem?_append_right (by omega),hxl,Nat.sub_self];rfl,hu.keepT hk⟩
  ·obtain ⟨x,q1,q2⟩:=hx i (by omega);exact ⟨x,by rw [List.getElem?_append_left (by omega)];exact q1,q2.keepT hk⟩
theorem RB.drew (h:RB w0 mb n S w):RB w0 mb n S w.drew:=by
 obtain ⟨K,V,vT,e1,e2,e3,e4,e5,hM⟩:=h;exact ⟨K,V,vT,e1,e2,e3,e4,e5,hM.keepT (fun b c t hb _=>hb) hM.low.drew⟩
theorem TrO.drew (h:TrO w0 mb n R0 R1 S ord vo vst st j v w):TrO w0 mb n R0 R1 S ord vo vst st j v w.drew:=by
 obtain ⟨xs,r1,r2⟩:=h.row;exact ⟨h.rb.drew,h.rord,h.rst,h.res,h.blk,h.ne,h.lo,⟨xs,r1,fun i hi=>let ⟨u,a,b⟩:=r2 i hi;⟨u,a,b.keep fun _ _=>rfl⟩⟩⟩
theorem TrO.done (h:TrO w0 mb n R0 R1 S ord vo vst st n v w) (k3:∀ (b:Nat) (cs:Array Value) (t:TypeId),w.heap[b]?=some (Obj.cells cs t (0,0))→t≠31→w'.heap[b]?=some (Obj.cells cs t (0,0))):TrIn w' (.agg #[v,vo,vst,.bool st]) ⟨(List.range n).map fun i=>(S.T i).ans,ord,zdq S,st⟩:=by
 have kr:∀ {e k:Nat} {u:Value} {xs:List Value},w.ownsRow mb e 1 u k xs→e≠31→w'.ownsRow mb e 1 u k xs:=fun {e k u xs} hr he=>zao hr fun g o hgo hh=>by
  obtain ⟨cc,hcc⟩:=zah hr hgo;rw [← hh,hcc];exact k3 _ _ _ hcc he
 obtain ⟨xs,hr,hx⟩:=h.row;refine ⟨v,vo,vst,rfl,?_,zdg (kr h.rord (by decide)),zdg (kr h.rst (by decide))⟩;obtain ⟨p,cap,e1,_,q⟩:=zkr (kr hr (by decide));refine ⟨p,cap,by rw [e1];simp,fun hne=>?_⟩;have hn:0 < n:=by
  rcases Nat.eq_zero_or_pos n with z|z
  ·subst z;exact absurd rfl hne
  ·exact z
 obtain ⟨g,c,e2,_,hg,hc⟩:=q hn;refine ⟨g,0,e2,fun i l hi=>?_⟩;have hlt:i < n:=by
  have:=(yai.1 hi).1
  simpa using this
 obtain rfl:(S.T i).ans=l:=by simpa [hlt] using hi
 obtain ⟨u,hu,ha⟩:=hx i hlt;refine ⟨u,?_,(ha.keepT fun b cs t hb ht=>k3 b cs t hb (by rcases ht with z|z<;>rw [z]<;>decide)).ansIn⟩;rw [Nat.zero_add,zab hg,hc i hlt];exact hu
end
theorem zi4 {n mo k:Nat} {r:zjg} (h:¬ (zeh r.S n=true∧r.ord.length < mo)):zd2 n mo k r=r:=by
 cases k with
 | zero=>rfl
 | succ k=>unfold zd2;rw [if_neg h]
theorem zsj {n mo k:Nat} {r:zjg} (h:zeh r.S n=true∧r.ord.length < mo):zd2 n mo (k+1) r=zd2 n mo k (zda n mo r (zjx n)):=by
 show (if _ then _ else _)=_;rw [if_pos h]
theorem zrt {n j:Nat} (h:j < n):(zjx n)[j]?=some (j:Int):=by
 unfold zjx;rw [List.getElem?_map,List.getElem?_range' h];simp
theorem zyk (n:Nat):(zjx n).length=n:=by simp [zjx]
theorem zp8 {n mo:Nat} {r:zjg} (h:zeh r.S n=true) (hm:r.ord.length < mo):r.ord.length < (zda n mo r (zjx n)).ord.length:=by
 obtain ⟨i,hi,q⟩:=List.any_eq_true.1 h;have hi':=List.mem_range.1 hi;exact zk3 (zjx n) hi' (List.mem_iff_getElem?.2 ⟨i,zrt hi'⟩) (of_decide_eq_true q) hm
def OutAt (w0:World) (mb n R0 mo:Nat) (g:zjg) (k:Nat) (v:Value) (w:World):Prop :=
 ∃ r,RunAt w0 mb n R0 r.S r.ord v w∧RInv n mo r∧zd2 n mo k r=g∧mo≤r.ord.length+k
structure RunIn (w0:World) (mb:Nat) (S0:GMc) (vt vs:Value) (LL:List (List OpD)) (sch:List Int) (w:World):Prop where
 rb:RB w0 mb 0 S0 w
 thr:ThrIn w0 vt LL
 sch:IntsIn w0 vs sch
 ser:S0.N=0
theorem zw8 {w0 w:World} {mb:Nat} {S0:GMc} {vt vs:Value} {LL:List (List OpD)} {sch:List Int} {most:Int} (h:RunIn w0 mb S0 vt vs LL sch w) (hLL:LL.length≤4611686018427387904) (hsch:sch.length≤4611686018427387904) :
  Calls Try.prog 99 #[.pointer (some ⟨mb,0,none⟩),vt,vs,.int .i64 most] w (RunD w0 mb (runT S0 LL sch (min LL.length 64) (min (max most 0) 1048576).toNat)):=by
 obtain ⟨i264,hi264,z1,z2,z3⟩:=info_parts zxv;obtain ⟨ta,tcap,rfl,ob,ln,cp,hta,hopsI⟩:=h.thr;obtain ⟨n,hn⟩:∃ n,min LL.length 64=n:=⟨_,rfl⟩;obtain ⟨mo,hmo⟩:∃ m:Nat,((m:Nat):Int)=min (max most 0) 1048576:=⟨(min (max most 0) 1048576).toNat,by omega⟩;have hpost:(min (max most 0) 1048576).toNat=mo:=by omega
 rw [hpost,hn];clear hpost;obtain ⟨hbs,hlow⟩:w0.heap.size=mb∧Below mb w0 w:=by
  obtain ⟨K,V,vT,e1,e2,e3,e4,e5,hM⟩:=h.rb;have h1:=hM.bs;have h2:=hM.low;rw [e1,e2] at h1 h2;exact ⟨h1,h2⟩
 have hRB:=h.rb;replace hta:=yay hta;replace hopsI:=yay hopsI;replace h:=yay h;obtain ⟨R0,hR0⟩:∃ r,w.heap.size=r:=⟨_,rfl⟩;have EN:=heap_alloc_new w (.cells #[.slice none 0 0,.slice none 0 0,.slice none 0 0,.bool false] 31);have hRB1:RB w0 mb 0 S0 (w.alloc (.cells #[.slice none 0 0,.slice none 0 0,.slice none 0 0,.bool false] 31)):=by
  obtain ⟨K,V,vT,e1,e2,e3,e4,e5,hM⟩:=hRB;exact ⟨K,V,vT,e1,e2,e3,e4,e5,(hM.alloc _).1⟩
 have hlow1:Below mb w0 (w.alloc (.cells #[.slice none 0 0,.slice none 0 0,.slice none 0 0,.bool false] 31)):=hlow.alloc (by have:=hlow.size;omega) _;rw [hR0] at EN;replace hR0:=yay hR0;replace hbs:=yay hbs;replace hRB:=yay hRB;have hlow0:=yay hlow;replace hlow:=yay hlow;go_enter Try.func99,Try.ntmps99
 go_upto_region 1 with fail
 rw [hR0.out];generalize w.alloc (.cells #[.slice none 0 0,.slice none 0 0,.slice none 0 0,.bool false] 31)=w1 at *;replace EN:=yay EN;replace hRB1:=yay hRB1;replace hlow1:=yay hlow1;replace hn:=yay hn;replace hmo:=yay hmo
 go_upto_if 21 with fail
 go_cut [9] (fun v wx=>v = .int .i64 (n:Int)∧wx=w1)
 case first =>
  by_cases q:LL.length≤64
  ·have d1:decide (64 < (LL.length:Int))=false:=decide_eq_false (by omega);have hz:=yay (show (LL.length:Int)=(n:Int) by have:=hn.out;omega)
   go_wp2_with fail
   go_meet
   exact ⟨by rw [hz.out],rfl⟩
  ·have d1:decide (64 < (LL.length:Int))=true:=decide_eq_true (by omega);have hz:=yay (show (64:Int)=(n:Int) by have:=hn.out;omega)
   go_wp2_with fail
   go_meet
   exact ⟨by rw [hz.out],rfl⟩
 case rest =>
  obtain ⟨rfl,ew⟩:=hcut;obtain rfl:=ew.symm
  go_upto_if 23 with fail
  go_cut [3] (fun v wx=>v = .int .i64 (max most 0)∧wx=w1)
  case first =>
   by_cases q:most < 0
   ·have d1:decide (most < 0)=true:=decide_eq_true q;have hz:=yay (show (0:Int)=max most 0 by omega)
    go_wp2_with fail
    go_meet
    exact ⟨by rw [← hz.out],rfl⟩
   ·have d1:decide (most < 0)=false:=decide_eq_false q;have hz:=yay (show most=max most 0 by omega)
    go_wp2_with fail
    go_meet
    exact ⟨by rw [← hz.out],rfl⟩
  case rest =>
   obtain ⟨rfl,ew⟩:=hcut;obtain rfl:=ew.symm
   go_upto_if 25 with fail
   obtain ⟨mx,hmx⟩:∃ m,max most 0=m:=⟨_,rfl⟩;rw [hmx];replace hmx:=yay hmx
   go_cut [3] (fun v wx=>v = .int .i64 (mo:Int)∧wx=w1)
   case first =>
    by_cases q:1048576 < mx
    ·have d1:decide (1048576 < mx)=true:=decide_eq_true q;have hz:=yay (show (1048576:Int)=(mo:Int) by have:=hmo.out;have:=hmx.out;omega)
     go_wp2_with fail
     go_meet
     exact ⟨by rw [← hz.out],rfl⟩
    ·have d1:decide (1048576 < mx)=false:=decide_eq_false q;have hz:=yay (show mx=(mo:Int) by have:=hmo.out;have:=hmx.out;omega)
     go_wp2_with fail
     go_meet
     exact ⟨by rw [← hz.out],rfl⟩
   case rest =>
    obtain ⟨rfl,ew⟩:=hcut;obtain rfl:=ew.symm;clear hmx
    go_upto_block 0 with fail
    go_cut [10] (fun v wx=>RB w0 mb n (zbr S0 (znm LL) n) wx∧wx.heap[R0]?=some (.cells #[.slice none 0 0,.slice none 0 0,.slice none 0 0,.bool false] 31 (0,0)))
    case first =>
     go_wp2_with fail
     go_loopw [10] (fun iv wr=>∃ j:Nat,j≤n∧iv = .int .i64 j∧Hid (RB w0 mb j (zbr S0 (znm LL) j) wr∧wr.heap[R0]?=some (.cells #[.slice none 0 0,.slice none 0 0,.slice none 0 0,.bool false] 31 (0,0)))) (fun iv _=>n - (intOf iv).toNat)
     case atStart=>exact ⟨0,by omega,rfl,yay ⟨hRB1.out,EN.out⟩⟩
     case round =>
      obtain ⟨j,hj,rfl,HR⟩:=hrel;have hn9:n≤64:=by have:=hn.out;omega
      by_cases hlt:j < n
      ·have hlt':(j:Int) < (n:Int):=by omega
       have hjL:j < LL.length:=by have:=hn.out;omega
       have hjL':(j:Int) < (LL.length:Int):=by omega
       have e1:IntKind.i64.wrap ((j:Int)+1)=((j+1:Nat):Int):=by rw [IntKind.wrap_i64];omega
       have hx:LL[j]?=some (LL.getD j []):=by rw [List.getD_eq_getElem?_getD,List.getElem?_eq_getElem hjL];rfl
       obtain ⟨tbb,tof,rfl,hcells⟩:=hta.out (by intro z;rw [z] at hjL;simp at hjL);have hc:=hcells j _ hx;have hI:=hopsI.out j _ hx;have hln:ln j=(LL.getD j []).length:=hI.2.1;have hcp:ln j≤cp j:=hI.2.2.1;have hvo:=zsr hI;obtain ⟨hb0,hl0⟩:=HR.out.1.low;have c1:wr.cell? ⟨tbb,tof+j,none⟩=some (.slice (ob j) (ln j) (cp j)):=(World.cell?_of_block (w:=w0) (hl0.block _ (by rw [← hb0];exact World.block_lt_of_cell? w0 _ hc))).trans hc;clear hcells hc hx hI hb0;generalize ob j=obj at *;generalize cp j=cpj at *;generalize ln j=lnj at *;obtain ⟨l6,hl6⟩:∃ l,((LL.getD j []).take 65536).length=l:=⟨_,rfl⟩;have hl6':l6=min lnj 65536:=by rw [← hl6,List.length_take,hln];omega
       rw [hl6] at hvo;obtain ⟨K,V,vT,g1,g2,g3,g4,g5,hM⟩:=HR.out.1;obtain ⟨xs,hrow,hxs⟩:=hM.row;have HT:=zpk g4 hM (by omega) (by rw [g2,g3]) (vo := .slice obj l6 cpj) (L:=znm LL j) (by rw [g1];exact hvo) (by unfold znm;rw [List.length_take];omega) hrow hxs;rw [g1,g2,g3,g5] at HT;replace HT:=yay HT;have HROW:Hid ((wr.alloc (.cells (tcV (.slice obj l6 cpj) (.slice none 0 0) j (zct (znm LL j))).toArray 264)).ownsRow mb 264 7 vT j xs):=yay (by rw [← g2,← g5];exact hrow.alloc _);have HSRC:=yay (src_thr wr (vs:=tcV (.slice obj l6 cpj) (.slice none 0 0) j (zct (znm LL j))) rfl tcV_one);have hsz:Hid (mb≤wr.heap.size):=yay (by have:=hM.size;rw [g2] at this;exact this);obtain ⟨tp,tc,e0⟩:=zbb hrow;rw [g5] at e0;subst e0;have m:=hM.mach;rw [g3] at m;have m3:=zab m 1;simp only [yac,yaa,yab] at m3;replace m:=yay m;replace hM:=yay hM;replace hrow:=yay hrow;replace hxs:=yay hxs;replace hvo:=yay hvo;replace hl0:=yay hl0;replace g1:=yay g1;replace g2:=yay g2;replace g3:=yay g3;replace g4:=yay g4;replace g5:=yay g5;replace hl6:=yay hl6;replace hln:=yay hln
       go_upto_if 37 with fail
       generalize hwo:wr=wo at *;clear hwo
       go_cut [11] (fun v wx=>v = .slice obj l6 cpj∧wx=wo)
       case first =>
        by_cases q:65536 < lnj
        ·have d1:decide (65536 < (lnj:Int))=true:=decide_eq_true (by omega);have q65:(65536:Int)≤(cpj:Int):=by omega
         have hz:=yay (show l6=65536 by omega);replace hl6':=yay hl6'
         go_wp2_with fail
         go_meet
         exact ⟨by rw [hz.out],rfl⟩
        ·have d1:decide (65536 < (lnj:Int))=false:=decide_eq_false (by omega);have hz:=yay (show l6=lnj by omega);replace hl6':=yay hl6'
         go_wp2_with fail
         go_meet
         exact ⟨by rw [hz.out],rfl⟩
       case rest =>
        obtain ⟨rfl,ew⟩:=hcut;obtain rfl:=ew.symm;replace hl6':=yay hl6';clear c1;clear hlt';have hj64:Hid (j < 64):=yay (by omega)
        go_wp2_with (first
         | (at_builtin;(refine zhe rfl (.tmp 44) (.tmp 48) 258 rfl mb 264 i264 _ _ Try.underlying258 hi264 z1 z2 z3 rfl (.slice tp j tc) j _ rfl HROW.out 1 _ HSRC.out ?l2 ?b2 ?n2 ?_);(case l2=>(unfold maxLen;have:=hj64.out;omega));(case b2=>(have:=hj64.out;omega));(case n2=>(have:=hsz.out;simp;omega));intro v' w2 ha;obtain ⟨q1,q2,rfl,y1,y2⟩:=HT.out v' w2 ha;(have y3:=zab (y1.trans m.out) 1);simp only [yac,yaa,yab] at y3;(have y4:=zai (y1.trans m.out) 1);(have HSET:=yay y2);clear y1 y2 ha)
         | (go_at_call 148;refine HSET.out.mono ?_;rintro e w' ⟨rfl,hd1,hd2⟩;(have HD:=yay (show RB w0 mb (j+1) (zbr S0 (znm LL) (j+1)) w'∧w'.heap[R0]?=some (.cells #[.slice none 0 0,.slice none 0 0,.slice none 0 0,.bool false] 31 (0,0)) from ⟨hd1,HR.out.1.kept hd2 HR.out.2 (by decide)⟩));clear hd1 hd2))
        exact ⟨⟨j+1,by have:=hlt;omega,by rw [Int.natCast_add];rfl,HD⟩,by simp [intOf];omega⟩
      ·obtain rfl:j=n:=by omega
       have hlt':¬ (j:Int) < (j:Int):=by omega
       go_wp2_with fail
       go_meet
       exact HR.out
    case rest =>
     obtain ⟨hRB2,EN2⟩:=hcut;clear EN hRB1 hlow1 hta hopsI hlow;have hI0:RInv n mo ⟨zbr S0 (znm LL) n,[]⟩:=by
      obtain ⟨a,b⟩:=zfu (L:=znm LL) (by rw [h.out.ser];decide) (zm2 LL) n;exact ⟨a,by rw [b.N,h.out.ser];exact Int.le_refl _,Nat.zero_le _⟩
     have hI:Hid (∀ l,RInv n mo (znl S0 LL n mo l)):=yay fun l=>hI0.fold l;clear hI0;have hA0:Hid (RunAt w0 mb n R0 (zbr S0 (znm LL) n) [] (.slice none 0 0) wc):=yay ⟨hRB2,World.ownsRow_nil _ _ _ _,EN2⟩;clear hRB2 EN2;obtain ⟨hs64,sa,scap,rfl,_,hsc⟩:=h.out.sch;replace hs64:=yay hs64;replace hsc:=yay hsc;obtain ⟨i3,hi3,y1,y2,y3⟩:=info_parts info3r
     go_upto_block 2 with fail
     go_cut [12] (fun v wx=>RunAt w0 mb n R0 (znl S0 LL n mo sch).S (znl S0 LL n mo sch).ord v wx)
     case first =>
      go_wp2_with fail
      go_loopw [12,13] (fun ov kv wr=>∃ k:Nat,k≤sch.length∧kv = .int .i64 k∧Hid (RunAt w0 mb n R0 (znl S0 LL n mo (sch.take k)).S (znl S0 LL n mo (sch.take k)).ord ov wr)) (fun _ kv _=>sch.length - (intOf kv).toNat)
      case atStart=>exact ⟨0,by omega,rfl,hA0⟩
      case round =>
       obtain ⟨k,hk,rfl,HA⟩:=hrel;obtain ⟨r,hr⟩:∃ r,znl S0 LL n mo (sch.take k)=r:=⟨_,rfl⟩;rw [hr] at HA;have hIr:=hI.out (sch.take k);rw [hr] at hIr;obtain ⟨op,oc,rfl⟩:=zbb HA.out.row;have hol:=hIr.ord;have hmo9:mo≤1048576:=by have:=hmo.out;omega
       by_cases hlt:k < sch.length
       ·have hlt':(k:Int) < (sch.length:Int):=by omega
        have d1:decide ((k:Int) < (sch.length:Int))=true:=decide_eq_true hlt';by_cases hf:r.ord.length < mo
        ·have hf':(r.ord.length:Int) < (mo:Int):=by omega
         have d2:decide ((r.ord.length:Int) < (mo:Int))=true:=decide_eq_true hf';have e1:IntKind.i64.wrap ((k:Int)+1)=((k+1:Nat):Int):=by rw [IntKind.wrap_i64];omega
         obtain ⟨x,hx⟩:∃ x,sch[k]?=some x:=⟨_,List.getElem?_eq_getElem hlt⟩;obtain ⟨sb,so,rfl,hcs⟩:=hsc.out (by intro z;rw [z] at hlt;simp at hlt);obtain ⟨hb0,hl0⟩:=HA.out.rb.low;have c1:wr.cell? ⟨sb,so+k,none⟩=some (.int .i64 x):=(World.cell?_of_block (w:=w0) (hl0.block _ (by rw [← hb0];exact World.block_lt_of_cell? w0 _ (hcs k x hx)))).trans (hcs k x hx);have hN:Hid (znl S0 LL n mo (sch.take (k+1))=zcw n mo r x):=yay (by
          rw [List.take_add_one,hx,← hr];exact zl4 _ _)
         clear hb0 hl0 hcs;replace hx:=yay hx;replace hr:=yay hr;replace hf:=yay hf;replace hf':=yay hf';replace hlt:=yay hlt;replace hlt':=yay hlt';replace hIr:=yay hIr;replace hol:=yay hol;replace hmo9:=yay hmo9;have HB:Hid (zcw n mo r x=r→RunAt w0 mb n R0 (znl S0 LL n mo (sch.take (k+1))).S (znl S0 LL n mo (sch.take (k+1))).ord (.slice op r.ord.length oc) wr):=yay fun z=>by rw [hN.out,z];exact HA.out
         by_cases q0:0≤x
         ·have d3:decide (0≤x)=true:=decide_eq_true q0;by_cases q1:x < (n:Int)
          ·have d4:decide (x < (n:Int))=true:=decide_eq_true q1;obtain ⟨i,rfl⟩:∃ i:Nat,x=(i:Int):=⟨x.toNat,by omega⟩;have hi:i < n:=by omega
           obtain ⟨tb,tc,va9,t1,t2,_,_⟩:=HA.out.rb.see hi;by_cases q2:0 < (r.S.T i).pc
           ·have d5:decide (0 < (r.S.T i).pc)=true:=decide_eq_true q2;have hst:zcw n mo r (i:Int)=zte r i:=by
             unfold zcw;rw [if_pos ⟨q0,q1,by simpa using q2,hf.out⟩];simp
            have HN2:Hid (∀ v w',RunAt w0 mb n R0 (zbh (zcx r.S i) i) (r.ord++[(i:Int)]) v w'→RunAt w0 mb n R0 (znl S0 LL n mo (sch.take (k+1))).S (znl S0 LL n mo (sch.take (k+1))).ord v w'):=yay fun v w' z=>by rw [hN.out,hst];exact z
            clear hst;have HSx:=yay (zua wr (i:Int) 3);have HO1:=yay (HA.out.row.alloc (.cells #[.int .i64 (i:Int)] 3));have hlow:Hid (mb≤(wr.alloc (.cells #[.int .i64 (i:Int)] 3)).heap.size):=yay (by obtain ⟨a,b⟩:=HA.out.rb.low;have:=b.size;simp;omega);have hser:Hid (r.S.N≤4611686018427387904):=yay (by have:=hIr.out.ser;have:=hol.out;have:=hmo9.out;omega);replace q2:=yay q2;replace hi:=yay hi
            go_wp2_with (first
             | (at_builtin;(refine zcb rfl (.tmp 89) (.tmp 91) 24 rfl mb 3 i3 _ _ Try.underlying24 hi3 y1 y2 y3 rfl (.slice op r.ord.length oc) r.ord.length _ rfl HO1.out 1 _ HSx.out ?l2 ?b2 ?n2 ?_);(case l2=>(unfold maxLen;have:=hol.out;have:=hmo9.out;omega));(case b2=>(have:=hol.out;have:=hmo9.out;omega));(case n2=>exact hlow.out);intro v' w2 ha;(have HP:=yay (HA.out.push ha));clear ha)
             | (go_at_call 149;refine (HP.out.step hIr.out.inv hi.out q2.out hser.out).mono ?_;rintro e w' ⟨rfl,hd⟩;(have HP2:=yay hd);clear hd)
             | (go_at_call 148;refine (HP2.out.settle (zmv hIr.out.inv hi.out ((hIr.out.inv.th i hi.out).pc.resolve_left (by have:=q2.out;omega))) hi.out).mono ?_;rintro e w' ⟨rfl,hd⟩;(have HP3:=yay hd);clear hd))
            exact ⟨⟨k+1,hlt.out,by rw [Int.natCast_add];rfl,yay (HN2.out _ _ HP3.out)⟩,by have:=hlt.out;simp [intOf];omega⟩
           ·have d5:decide (0 < (r.S.T i).pc)=false:=decide_eq_false q2;have hst:zcw n mo r (i:Int)=r:=by unfold zcw;rw [if_neg (fun z=>q2 (by simpa using z.2.2.1))]
            have HB2:=yay (HB.out hst);clear hst;replace q2:=yay q2
            go_wp2_with fail
            exact ⟨⟨k+1,hlt.out,by rw [Int.natCast_add];rfl,HB2⟩,by have:=hlt.out;simp [intOf];omega⟩
          ·have d4:decide (x < (n:Int))=false:=decide_eq_false q1;have hst:zcw n mo r x=r:=by unfold zcw;rw [if_neg (by omega)]
           have HB2:=yay (HB.out hst);clear hst;replace q1:=yay q1
           go_wp2_with fail
           exact ⟨⟨k+1,hlt.out,by rw [Int.natCast_add];rfl,HB2⟩,by have:=hlt.out;simp [intOf];omega⟩
         ·have d3:decide (0≤x)=false:=decide_eq_false q0;have hst:zcw n mo r x=r:=by unfold zcw;rw [if_neg (by omega)]
          have HB2:=yay (HB.out hst);clear hst;replace q0:=yay q0
          go_wp2_with fail
          exact ⟨⟨k+1,hlt.out,by rw [Int.natCast_add];rfl,HB2⟩,by have:=hlt.out;simp [intOf];omega⟩
        ·have d2:decide ((r.ord.length:Int) < (mo:Int))=false:=decide_eq_false (by omega);have HZ:Hid (RunAt w0 mb n R0 (znl S0 LL n mo sch).S (znl S0 LL n mo sch).ord (.slice op r.ord.length oc) wr):=yay (by
          have:znl S0 LL n mo sch=r:=by
           have e:sch=sch.take k++sch.drop k:=(List.take_append_drop _ _).symm;rw [e];unfold znl at hr ⊢;unfold zda at hr ⊢;rw [List.foldl_append,hr];exact ziv (n:=n) _ (by omega)
          rw [this];exact HA.out)
         replace hf:=yay hf;replace hr:=yay hr;replace hIr:=yay hIr
         go_wp2_with fail
         go_meet
         exact HZ.out
       ·obtain rfl:k=sch.length:=by omega
        have d1:decide ((sch.length:Int) < (sch.length:Int))=false:=decide_eq_false (by omega);rw [List.take_length] at hr;have HZ:Hid (RunAt w0 mb n R0 (znl S0 LL n mo sch).S (znl S0 LL n mo sch).ord (.slice op r.ord.length oc) wr):=yay (by
         rw [hr];exact HA.out)
        replace hr:=yay hr;replace hIr:=yay hIr
        go_wp2_with fail
        go_meet
        exact HZ.out
     case rest =>
      have HR:=yay hcut;have h9:Hid (OutAt w0 mb n R0 mo (zhy S0 LL sch n mo) mo u12 wc):=yay ⟨_,hcut,hI.out sch,rfl,by omega⟩;clear hcut hI hA0 hs64 hsc
      go_upto_block 4 with fail
      go_cut [12] (fun v wx=>RunAt w0 mb n R0 (zhy S0 LL sch n mo).S (zhy S0 LL sch n mo).ord v wx∧RInv n mo (zhy S0 LL sch n mo))
      case first =>
       go_wp2_with fail
       go_loopg [12] mo (fun k v wr=>Hid (OutAt w0 mb n R0 mo (zhy S0 LL sch n mo) k v wr))
       case atStart=>exact h9
       case round =>
        obtain ⟨r,HA,hIr,hro,hk⟩:=hrel.out;replace HA:=yay HA;obtain ⟨op,oc,e9⟩:=zbb HA.out.row;subst e9;have hol:=hIr.ord;have hmo9:mo≤1048576:=by have:=hmo.out;omega
        have HL:=HA.out.rb.left;by_cases hl:zeh r.S n=true
        ·rw [hl] at HL;replace HL:=yay HL;by_cases hf:r.ord.length < mo
         ·have hf':(r.ord.length:Int) < (mo:Int):=by omega
          have d2:decide ((r.ord.length:Int) < (mo:Int))=true:=decide_eq_true hf';have d2n:decide (r.ord.length < mo)=true:=decide_eq_true hf;obtain ⟨k',hk'⟩:∃ k',gk=k'+1:=⟨gk - 1,by omega⟩;have hmv:=zp8 hl hf;have HN:Hid (∀ v w',RunAt w0 mb n R0 (zda n mo r (zjx n)).S (zda n mo r (zjx n)).ord v w'→OutAt w0 mb n R0 mo (zhy S0 LL sch n mo) k' v w'):=yay fun v w' z=>⟨_,z,hIr.fold _,by rw [← hro,hk',zsj ⟨hl,hf⟩],by omega⟩;have hkl:Hid (k' < gk):=yay (by omega);replace hf:=yay hf;replace hf':=yay hf';replace hl:=yay hl;replace hk:=yay hk;replace hk':=yay hk';replace hmv:=yay hmv;replace hro:=yay hro;replace hIr:=yay hIr;replace hol:=yay hol;replace hmo9:=yay hmo9;replace HR:=yay HR
          go_wp2_with (go_at_call 150;refine HL.out.mono ?_;rintro e w' ⟨rfl,rfl⟩)
          go_loopw [12,15] (fun ov jv wq=>∃ j:Nat,j≤n∧jv = .int .i64 j∧Hid (RunAt w0 mb n R0 (zda n mo r ((zjx n).take j)).S (zda n mo r ((zjx n).take j)).ord ov wq)) (fun _ jv _=>n - (intOf jv).toNat)
          case atStart=>exact ⟨0,by omega,rfl,HA⟩
          case round =>
           obtain ⟨j,hj,rfl,HQ⟩:=hrel;obtain ⟨r2,hr2⟩:∃ r2,zda n mo r ((zjx n).take j)=r2:=⟨_,rfl⟩;rw [hr2] at HQ;have hI2:=hIr.out.fold ((zjx n).take j);rw [hr2] at hI2;obtain ⟨op2,oc2,e9⟩:=zbb HQ.out.row;subst e9;have hol2:=hI2.ord;by_cases hlt:j < n
           ·have hlt':(j:Int) < (n:Int):=by omega
            have d6:decide ((j:Int) < (n:Int))=true:=decide_eq_true hlt';by_cases hf2:r2.ord.length < mo
            ·have hf2':(r2.ord.length:Int) < (mo:Int):=by omega
             have d7:decide ((r2.ord.length:Int) < (mo:Int))=true:=decide_eq_true hf2';have hn9:n≤64:=by have:=hn.out;omega
             have e1:IntKind.i64.wrap ((j:Int)+1)=((j+1:Nat):Int):=by rw [IntKind.wrap_i64];omega
             obtain ⟨tb,tc,va9,t1,t2,_,_⟩:=HQ.out.rb.see hlt;have hN:Hid (zda n mo r ((zjx n).take (j+1))=zcw n mo r2 j):=yay (by
              rw [List.take_add_one,zrt hlt,← hr2];exact zl4 _ _)
             replace hr2:=yay hr2;replace hI2:=yay hI2;replace hol2:=yay hol2;replace hf2:=yay hf2;replace hf2':=yay hf2';replace hn9:=yay hn9;have hj64:Hid (j < 64):=yay (by have:=hn9.out;omega);by_cases q2:0 < (r2.S.T j).pc
             ·have d5:decide (0 < (r2.S.T j).pc)=true:=decide_eq_true q2;have hst:zcw n mo r2 (j:Int)=zte r2 j:=by
               unfold zcw;rw [if_pos ⟨by omega,hlt',by simpa using q2,hf2.out⟩];simp
              have HN2:Hid (∀ v w',RunAt w0 mb n R0 (zbh (zcx r2.S j) j) (r2.ord++[(j:Int)]) v w'→RunAt w0 mb n R0 (zda n mo r ((zjx n).take (j+1))).S (zda n mo r ((zjx n).take (j+1))).ord v w'):=yay fun v w' z=>by rw [hN.out,hst];exact z
              clear hst;replace hlt:=yay hlt;replace hlt':=yay hlt'
              rename World=>wq
              have HSx:=yay (zua wq (j:Int) 3);have HO1:=yay (HQ.out.row.alloc (.cells #[.int .i64 (j:Int)] 3));have hlow:Hid (mb≤(wq.alloc (.cells #[.int .i64 (j:Int)] 3)).heap.size):=yay (by obtain ⟨a,b⟩:=HQ.out.rb.low;have:=b.size;simp;omega);have hser:Hid (r2.S.N≤4611686018427387904):=yay (by have:=hI2.out.ser;have:=hol2.out;have:=hmo9.out;omega);replace q2:=yay q2
              go_wp2_with (first
               | (at_builtin;(refine zcb rfl (.tmp 127) (.tmp 129) 24 rfl mb 3 i3 _ _ Try.underlying24 hi3 y1 y2 y3 rfl (.slice op2 r2.ord.length oc2) r2.ord.length _ rfl HO1.out 1 _ HSx.out ?l2 ?b2 ?n2 ?_);(case l2=>(unfold maxLen;have:=hol2.out;have:=hmo9.out;omega));(case b2=>(have:=hol2.out;have:=hmo9.out;omega));(case n2=>exact hlow.out);intro v' w2 ha;(have HP:=yay (HQ.out.push ha));clear ha)
               | (go_at_call 149;refine (HP.out.step hI2.out.inv hlt.out q2.out hser.out).mono ?_;rintro e w' ⟨rfl,hd⟩;(have HP2:=yay hd);clear hd)
               | (go_at_call 148;refine (HP2.out.settle (zmv hI2.out.inv hlt.out ((hI2.out.inv.th j hlt.out).pc.resolve_left (by have:=q2.out;omega))) hlt.out).mono ?_;rintro e w' ⟨rfl,hd⟩;(have HP3:=yay hd);clear hd))
              exact ⟨⟨j+1,hlt.out,by rw [Int.natCast_add];rfl,yay (HN2.out _ _ HP3.out)⟩,by have:=hlt.out;simp [intOf];omega⟩
             ·have d5:decide (0 < (r2.S.T j).pc)=false:=decide_eq_false q2;have hst:zcw n mo r2 (j:Int)=r2:=by unfold zcw;rw [if_neg (fun z=>q2 (by simpa using z.2.2.1))]
              have HB2:Hid (RunAt w0 mb n R0 (zda n mo r ((zjx n).take (j+1))).S (zda n mo r ((zjx n).take (j+1))).ord (.slice op2 r2.ord.length oc2) wr):=yay (by rw [hN.out,hst];exact HQ.out);clear hst;replace q2:=yay q2;replace hlt:=yay hlt;replace hlt':=yay hlt'
              go_wp2_with fail
              exact ⟨⟨j+1,hlt.out,by rw [Int.natCast_add];rfl,HB2⟩,by have:=hlt.out;simp [intOf];omega⟩
            ·have d7:decide ((r2.ord.length:Int) < (mo:Int))=false:=decide_eq_false (by omega);have HZ:Hid (zda n mo r (zjx n)=r2):=yay (by
              have e:zjx n=(zjx n).take j++(zjx n).drop j:=(List.take_append_drop _ _).symm;rw [e];unfold zda at hr2 ⊢;rw [List.foldl_append,hr2];exact ziv (n:=n) _ (by omega))
             replace hf2:=yay hf2;replace hr2:=yay hr2;replace hI2:=yay hI2
             go_wp2_with fail
             go_roundg k'
             case measure=>exact hkl.out
             case rel=>exact yay (HN.out _ _ (by rw [HZ.out];exact HQ.out))
           ·obtain rfl:j=n:=by omega
            have d6:decide ((j:Int) < (j:Int))=false:=decide_eq_false (by omega);have HZ:Hid (zda j mo r (zjx j)=r2):=yay (by
             rw [← hr2,List.take_of_length_le (by rw [zyk];omega)])
            replace hr2:=yay hr2;replace hI2:=yay hI2
            go_wp2_with fail
            go_roundg k'
            case measure=>exact hkl.out
            case rel=>exact yay (HN.out _ _ (by rw [HZ.out];exact HQ.out))
         ·have d2:decide ((r.ord.length:Int) < (mo:Int))=false:=decide_eq_false (by omega);have HZ:Hid (zhy S0 LL sch n mo=r):=yay (by rw [← hro];exact zi4 (fun z=>hf z.2));replace hl:=yay hl;replace hf:=yay hf;replace hIr:=yay hIr;replace hro:=yay hro
          go_wp2_with (go_at_call 150;refine HL.out.mono ?_;rintro e w' ⟨rfl,rfl⟩)
          go_meet
          rw [HZ.out];exact ⟨HA.out,hIr.out⟩
        ·have hl2:zeh r.S n=false:=by simpa using hl
         rw [hl2] at HL;replace HL:=yay HL;have HZ:Hid (zhy S0 LL sch n mo=r):=yay (by rw [← hro];exact zi4 (fun z=>hl z.1));replace hl:=yay hl;replace hl2:=yay hl2;replace hIr:=yay hIr;replace hro:=yay hro
         go_wp2_with (go_at_call 150;refine HL.out.mono ?_;rintro e w' ⟨rfl,rfl⟩)
         go_meet
         rw [HZ.out];exact ⟨HA.out,hIr.out⟩
      case rest =>
       obtain ⟨hcA,hcI⟩:=hcut;clear HR h9;have hQ:Hid (∀ e w',RunD w0 mb ⟨(List.range n).map fun i=>((zhy S0 LL sch n mo).S.T i).ans,(zhy S0 LL sch n mo).ord,zdq (zhy S0 LL sch n mo).S,zeh (zhy S0 LL sch n mo).S n⟩ e w'→RunD w0 mb (runT S0 LL sch n mo) e w'):=yay fun e w' z=>z;generalize zhy S0 LL sch n mo=g at hcA hcI hQ;obtain ⟨op,oc,e9⟩:=zbb hcA.row;subst e9;have hR0lo:mb≤R0:=by have:=hlow0.out.size;have:=hR0.out;have:=hbs.out;omega
       have hol:=hcI.ord;have hmo9:mo≤1048576:=by have:=hmo.out;omega
       have HL:=yay hcA.rb.left;have HS:=yay (hcA.rb.state);replace hR0lo:=yay hR0lo;replace hcA:=yay hcA;replace hcI:=yay hcI;go_upto_region 34 with (first
        | (go_at_call 150;refine HL.out.mono ?_;rintro e w' ⟨rfl,rfl⟩)
        | (go_at_call 151;refine HS.out.mono ?_;rintro e w9 ⟨v9,rfl,hv9,hb9⟩;obtain ⟨sp,sc,e9⟩:=zbb hv9;subst e9;(have HT:=yay (hcA.out.told (st:=zeh g.S n) hR0lo.out hb9 hv9));(have HCAP:=yay (row_cap hv9));clear hv9 hb9))
       generalize w9.alloc (.cells #[.slice none 0 0,.slice op g.ord.length oc,.slice sp (zdq g.S).length sc,.bool (zeh g.S n)] 31)=wA at *;generalize w9.heap.size=R1 at *;obtain ⟨i40,hi40,a1,a2,a3⟩:=info_parts info40r;generalize hso:(zdq g.S).length=so at *;replace hso:=yay hso;generalize hlf:zeh g.S n=lf at *;replace hlf:=yay hlf;clear HL HS
       go_wp2_with fail
       go_loopw [17] (fun iv wr=>∃ (j:Nat) (v:Value),j≤n∧iv = .int .i64 j∧Hid (TrO w0 mb n R0 R1 g.S g.ord (.slice op g.ord.length oc) (.slice sp so sc) lf j v wr)) (fun iv _=>n - (intOf iv).toNat)
       case atStart=>exact ⟨0,_,by omega,rfl,HT⟩
       case round =>
        obtain ⟨j,v,hj,rfl,HL⟩:=hrel;obtain ⟨xs,hrow,hxs⟩:=HL.out.row;obtain ⟨vp,vc,e9⟩:=zbb hrow;subst e9;by_cases hlt:j < n
        ·have hlt':(j:Int) < (n:Int):=by omega
         have hn9:n≤64:=by have:=hn.out;omega
         obtain ⟨tb,tc,va9,t1,t2,t3,t4⟩:=HL.out.rb.see hlt;obtain ⟨pa,pc,e9⟩:=t4.slice;subst e9;generalize hal:(g.S.T j).ans.length=aln at *;replace hal:=yay hal;have b0:wr.cell? ⟨R1,0,none⟩=some (.slice vp j vc):=by rw [zab HL.out.blk 0];rfl
         have al:∀ {a:Addr} {v:Value} (o:Obj),wr.cell? a=some v→(wr.alloc o).cell? a=some v:=fun {a v} o hv=>(World.cell?_of_block (w:=wr) (Below.heap_alloc _ _ _ (World.block_lt_of_cell? wr _ hv))).trans hv;have b0':=al (.cells #[.slice pa aln pc] 40) b0;have HD:=HL.out.drew;have HOW:(wr.drew.alloc (.cells #[.slice pa aln pc] 40)).ownsRow mb 40 1 (.slice vp j vc) j xs:=World.ownsRow.alloc (w:=wr.drew) hrow _;have HSX:=zt9 wr.drew (.slice pa aln pc) 40 rfl;have hlo:=HL.out.rb.low;obtain ⟨v',w3,hrun,ha⟩:=zbx (P:=Try.prog) (wr.drew.alloc (.cells #[.slice pa aln pc] 40)) mb 29 29 40 i40 _ 24 Try.underlying29 hi40 a1 a2 a3 (by rfl) (.slice vp j vc) j _ HOW (.slice (some ⟨wr.heap.size,0,none⟩) 1 1) 1 [.slice pa aln pc] HSX (by unfold maxLen;omega) (by omega) (by show mb≤(wr.alloc (.cells #[.slice pa aln pc] 40)).heap.size;have:=hlo.2.size;simp;omega);have HRUN:Hid ((Builtin.append_ #[29,29] 29 #[.slice vp j vc,.slice (some ⟨wr.heap.size,0,none⟩) 1 1]).run Try.prog (wr.alloc (.cells #[.slice pa aln pc] 40)).drew = .ok v' w3):=yay hrun;obtain ⟨hb2,HM⟩:=HD.more (u := .slice pa aln pc) (t4.keep fun _ _=>rfl) hrow (fun i hi=>let ⟨u,a,b⟩:=hxs i hi;⟨u,a,b.keep fun _ _=>rfl⟩) ha;obtain ⟨xs2,hrow2,_⟩:=HM.row;obtain ⟨vp2,vc2,e9⟩:=zbb hrow2;subst e9;have d0:w3.cell? ⟨R1,0,none⟩=some (.slice vp j vc):=by rw [zab hb2 0];rfl
         have y0:=zai hb2 0;have e2:IntKind.i64.wrap ((j:Int)+1)=((j+1:Nat):Int):=by rw [IntKind.wrap_i64];omega
         clear hrun ha HOW HSX HD hb2 al hrow2 t4;replace HM:=yay HM;replace HL:=yay HL;replace hrow:=yay hrow;replace hxs:=yay hxs;replace hlo:=yay hlo;go_upto_region 37 with fail
         go_region_law (refine zaz (by rfl) _ _ 29 29 (by rfl) (.slice vp j vc) (.slice (some ⟨wr.heap.size,0,none⟩) 1 1) (by rfl) (by rfl) HRUN.out ?_)
         all_goals
          go_wp2_with fail
          refine ⟨⟨j+1,.slice vp2 (j+1) vc2,by omega,by rw [Int.natCast_add];rfl,HM⟩,by simp [intOf];omega⟩
        ·obtain rfl:j=n:=by omega
         have b0:wr.cell? ⟨R1,0,none⟩=some (.slice vp j vc):=by rw [zab HL.out.blk 0];rfl
         have b1:wr.cell? ⟨R1,1,none⟩=some (.slice op g.ord.length oc):=by rw [zab HL.out.blk 1];rfl
         have b2:wr.cell? ⟨R1,2,none⟩=some (.slice sp so sc):=by rw [zab HL.out.blk 2];rfl
         have b3:wr.cell? ⟨R1,3,none⟩=some (.bool lf):=by rw [zab HL.out.blk 3];rfl
         have r0:wr.cell? ⟨R0,0,none⟩=some (.slice none 0 0):=by rw [zab HL.out.res 0];rfl
         have r1:wr.cell? ⟨R0,1,none⟩=some (.slice none 0 0):=by rw [zab HL.out.res 1];rfl
         have r2:wr.cell? ⟨R0,2,none⟩=some (.slice none 0 0):=by rw [zab HL.out.res 2];rfl
         have r3:wr.cell? ⟨R0,3,none⟩=some (.bool false):=by rw [zab HL.out.res 3];rfl
         have y0:=zai HL.out.res 0;have y1:=zai HL.out.res 1;have y2:=zai HL.out.res 2;have y3:=zai HL.out.res 3;obtain ⟨x1,x2,x3⟩:=set4 (x := .slice vp j vc) (y := .slice op g.ord.length oc) (z := .slice sp so sc) (u := .bool lf) HL.out.res;have BF:=((((HL.out.rb.low.2).setCell (p:=⟨R0,0,none⟩) hR0lo.out (.slice vp j vc)).setCell (p:=⟨R0,1,none⟩) hR0lo.out (.slice op g.ord.length oc)).setCell (p:=⟨R0,2,none⟩) hR0lo.out (.slice sp so sc)).setCell (p:=⟨R0,3,none⟩) hR0lo.out (.bool lf);have HF:=yay (show ∀ w'':World,(∀ (b:Nat) (c:Array Value) (t:TypeId),wr.heap[b]?=some (Obj.cells c t (0,0))→t≠31→w''.heap[b]?=some (Obj.cells c t (0,0)))→TrIn w'' _ _ from fun w'' hk=>HL.out.done hk)
         have RES:=yay HL.out.res;replace x2:=yay x2;replace x1:=yay x1;replace BF:=yay BF;replace hrow:=yay hrow;replace hxs:=yay hxs;clear x3
         go_wp2_with fail
         refine bodyPost_ret (results_cell_row (fn:=Try.f99) (p:=8) (ty:=31) rfl _ _ R0 31 _ (0,0) _ rfl x1.out Try.underlying31 rfl zq2) rfl ?_;exact hQ.out _ _ ⟨_,rfl,fun w'' hk=>HF.out w'' fun b c t hb ht=>hk b c t ((x2.out b fun z=>by
          rw [z,RES.out] at hb;simp at hb;exact ht hb.2.symm).trans hb) ht,BF.out,_,_,_,_,_,_,rfl,HCAP.out⟩
theorem zsk {w:World} {l:List Int} {LL:List (List OpD)} {sch:List Int} {vl vt vs:Value} {most:Int} (hl:IntsIn w vl l) (hT:ThrIn w vt LL) (hS:IntsIn w vs sch) (hl9:l.length≤4611686018427387904) (hLL:LL.length≤4611686018427387904) (hsch:sch.length≤4611686018427387904) :
  Calls Try.prog 31 #[vl,vt,vs,.int .i64 most] w (DoneC (trM l LL sch most) w):=by
 generalize hT9:trM l LL sch most=T;replace hT9:=yay hT9;have EN:=heap_alloc_new w (.cells #[.slice none 0 0,.slice none 0 0,.slice none 0 0,.bool false] 31);have B0:Below w.heap.size w (w.alloc (.cells #[.slice none 0 0,.slice none 0 0,.slice none 0 0,.bool false] 31)):=(Below.refl _ _).alloc (yax _) _;have S0:(w.alloc (.cells #[.slice none 0 0,.slice none 0 0,.slice none 0 0,.bool false] 31)).heap.size=w.heap.size+1:=by simp
 have hl1:=hl.keep fun b hb=>B0.block b hb;have hT1:=hT.keep fun b hb=>B0.block b hb;have hS1:=hS.keep fun b hb=>B0.block b hb;clear hl hT hS;replace hT1:=yay hT1;replace hS1:=yay hS1;replace hl1:=yay hl1;replace hl9:=yay hl9;replace hLL:=yay hLL;replace hsch:=yay hsch;go_enter Try.func31,Try.ntmps31
 go_upto_region 1 with fail
 generalize w.alloc (.cells #[.slice none 0 0,.slice none 0 0,.slice none 0 0,.bool false] 31)=w1 at *;generalize hN:w.heap.size=N at *;have HN:=yay (zux hl1.out.at hl9.out);replace EN:=yay EN;replace B0:=yay B0;replace S0:=yay S0;replace hN:=yay hN;generalize hmb:w1.heap.size=mb at HN;replace hmb:=yay hmb
 go_wp2_with (first
  | (go_at_call 98;refine HN.out.mono ?_;rintro e w2 ⟨rfl,vC,hM⟩;have hRB:=hM.rb;(have HR:Hid (Calls Try.prog 99 #[.pointer (some ⟨mb,0,none⟩),vt,vs,.int .i64 most] w2 (RunD w1 mb T)):=yay (by rw [← hT9.out];exact zw8 (most:=most) ⟨hRB,hT1.out,hS1.out,rfl⟩ hLL.out hsch.out));clear hM hRB)
  | (go_at_call 99;refine HR.out.mono ?_;rintro e w3 ⟨v,rfl,hTr,hB,hC⟩;obtain ⟨va,vo,vst,e9,⟨pa,ca,e10,_⟩,⟨po,co,e11,_⟩,⟨ps,cs,e12,_⟩⟩:=hTr w3 (fun _ _ _ h _=>h);subst e9;subst e10;subst e11;subst e12;(have HTr:=yay hTr);(have HC:=yay hC);clear hC;(have HB:=yay hB);clear hTr hB;(have EW:w3.heap[N]?=some (.cells #[.slice none 0 0,.slice none 0 0,.slice none 0 0,.bool false] 31 (0,0)):=(HB.out.block N (by have:=S0.out;have:=hmb.out;omega)).trans EN.out);(have r0:w3.cell? ⟨N,0,none⟩=some (.slice none 0 0):=by rw [zab EW 0];rfl);(have r1:w3.cell? ⟨N,1,none⟩=some (.slice none 0 0):=by rw [zab EW 1];rfl);(have r2:w3.cell? ⟨N,2,none⟩=some (.slice none 0 0):=by rw [zab EW 2];rfl);(have r3:w3.cell? ⟨N,3,none⟩=some (.bool false):=by rw [zab EW 3];rfl);have y0:=zai EW 0;have y1:=zai EW 1;have y2:=zai EW 2;have y3:=zai EW 3;(have X:=yay (set4 (x := .slice pa T.ans.length ca) (y := .slice po T.ord.length co) (z := .slice ps T.st.length cs) (u := .bool T.stuck) EW));(have EW2:=yay EW);clear EW))
 obtain ⟨x1,x2,x3⟩:=X.out;have BL:Below N w w3:=B0.out.trans (HB.out.mono (by have:=S0.out;have:=hmb.out;omega));have BF:=yay ( (((BL.setCell (p:=⟨N,0,none⟩) (yax N) (.slice pa T.ans.length ca)).setCell (p:=⟨N,1,none⟩) (yax N) (.slice po T.ord.length co)).setCell (p:=⟨N,2,none⟩) (yax N) (.slice ps T.st.length cs)).setCell (p:=⟨N,3,none⟩) (yax N) (.bool T.stuck));refine bodyPost_ret (results_cell_row (fn:=Try.f31) (p:=8) (ty:=31) rfl _ _ N 31 _ (0,0) _ rfl x1 Try.underlying31 rfl zq2) rfl ?_;refine ⟨_,rfl,HTr.out _ fun b c t hb ht=>(x2 b fun z=>?_).trans hb,by rw [hN.out];exact BF.out,HC.out⟩;rw [z,EW2.out] at hb;simp at hb;exact ht hb.2.symm
theorem zuj {w:World} {l:List Int} {LL:List (List OpD)} {sch:List Int} {vl vt vs:Value} {most:Int} (hl:IntsIn w vl l) (hT:ThrIn w vt LL) (hS:IntsIn w vs sch) (hl9:l.length≤4611686018427387904) (hLL:LL.length≤4611686018427387904) (hsch:sch.length≤4611686018427387904) :
  Calls Try.prog 31 #[vl,vt,vs,.int .i64 most] w (DoneG (trM l LL sch most) w) :=
 (zsk hl hT hS hl9 hLL hsch).mono fun e w' ⟨v,e1,h1,h2,_⟩=>⟨v,e1,h1,h2⟩
end Go.Proofs.Ytofacoojpgkbiaa.Cl
