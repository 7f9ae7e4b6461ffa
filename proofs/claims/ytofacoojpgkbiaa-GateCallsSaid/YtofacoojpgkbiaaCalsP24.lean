/-
  A part of a proof. No condition of its own.
-/
import Derived.Test.YtofacoojpgkbiaaCalsP20
set_option linter.unusedVariables false
set_option maxHeartbeats 8000000
set_option linter.unusedSimpArgs false
namespace Go.Proofs.Ytofacoojpgkbiaa
open Go.Conc Go.RowKit
open Go.ConcN (upd upd_ne upd_same)
set_option maxRecDepth 100000
structure GT where
 ops:List OpD
 ans:List Ans
 at_:Nat
 pc:Int
 list:List Int
 ser:Int
 least:Int
 place:Int
structure GMc where
 L:List Int
 ser:Int
 N:Nat→Int
 T:Nat→GT
def GMc.setT (S:GMc) (i:Nat) (t:GT):GMc:={ S with T:=upd S.T i t }
theorem GMc.setT_T (S:GMc) (i:Nat) (t:GT):(S.setT i t).T i=t:=upd_same _ _ _
theorem zos {α:Type} (f:Nat→α) (i:Nat) (x y:α):upd (upd f i x) i y=upd f i y:=by
 funext j;by_cases h:j=i
 ·subst h;rw [upd_same,upd_same]
 ·rw [upd_ne _ _ h,upd_ne _ _ h,upd_ne _ _ h]
theorem znd {α:Type} (f:Nat→α) (i:Nat):upd f i (f i)=f:=by
 funext j;by_cases h:j=i
 ·subst h;exact upd_same _ _ _
 ·exact upd_ne _ _ h
theorem GMc.setT_setT (S:GMc) (i:Nat) (t t':GT):(S.setT i t).setT i t'=S.setT i t':=by unfold GMc.setT;simp only [zos]
def tcV (vo va vl:Value) (i:Nat) (t:GT):List Value:=[vo,va,.int .i64 i,.int .i64 t.at_,.int .i64 t.pc,vl,.int .i64 t.ser,.int .i64 t.least,.int .i64 t.place]
structure TRow (e z tb n cap:Nat) (f:Nat→List Value) (w:World):Prop where
 ex:∃ cur,w.heap[tb]?=some (.cells cur e (0,0))∧n≤cap∧cap≤maxLen∧cur.size=cap * z∧∀ i,i < n→∀ k,k < z→cur[i * z+k]?=(f i)[k]?
section
variable {e z tb n cap:Nat} {f:Nat→List Value} {w w':World}
theorem TRow.cell (h:TRow e z tb n cap f w) {i k:Nat} (hi:i < n) (hk:k < z):w.cell? ⟨tb,i * z+k,none⟩=(f i)[k]?:=by
 obtain ⟨cur,h1,h2,h3,h4,h5⟩:=h.ex;rw [zac h1];exact h5 i hi k hk
theorem TRow.free (h:TRow e z tb n cap f w) (x:Nat):w.frozen? ⟨tb,x,none⟩=false:=by
 obtain ⟨cur,h1,_⟩:=h.ex;exact zan h1 x
theorem TRow.keep (h:TRow e z tb n cap f w) (hk:w'.heap[tb]?=w.heap[tb]?):TRow e z tb n cap f w':=by
 obtain ⟨cur,h1,h2⟩:=h.ex;exact ⟨cur,hk.trans h1,h2⟩
theorem TRow.put (h:TRow e z tb n cap f w) {i k:Nat} (hi:i < n) (hk:k < z) (hl:(f i).length=z) (v:Value):TRow e z tb n cap (upd f i ((f i).set k v)) (w.setCell ⟨tb,i * z+k,none⟩ v):=by
 obtain ⟨cur,h1,h2,h3,h4,h5⟩:=h.ex;have hlt:i * z+k < cur.size:=by
  rw [h4];have:(i+1) * z≤cap * z:=Nat.mul_le_mul_right _ (by omega);rw [Nat.add_mul] at this;omega
 refine ⟨_,za3 h1 _ v,h2,h3,by simpa using h4,fun j hj m hm=>?_⟩;rw [Array.getElem?_setIfInBounds];by_cases q:i * z+k=j * z+m
 ·have hij:i=j:=by
   rcases Nat.lt_trichotomy i j with a|a|a
   ·have:(i+1) * z≤j * z:=Nat.mul_le_mul_right _ a;rw [Nat.add_mul] at this;omega
   ·exact a
   ·have:(j+1) * z≤i * z:=Nat.mul_le_mul_right _ a;rw [Nat.add_mul] at this;omega
  subst hij;obtain rfl:k=m:=by omega
  rw [if_pos rfl,if_pos hlt,upd_same,List.getElem?_set_self (by omega)]
 ·rw [if_neg q];by_cases hij:j=i
  ·subst hij;rw [upd_same,List.getElem?_set_ne (by omega)];exact h5 j hj m hm
  ·rw [upd_ne _ _ hij];exact h5 j hj m hm
end
def LstN (nb:Nat) (w:World) (u:Value) (l:List Int):Prop :=
 ∃ a cap,u = .slice a l.length cap∧l.length≤cap∧(a=none→cap=0)∧(l≠[]→∃ b o c,a=some ⟨b,o,none⟩∧b≠nb∧w.heap[b]?=some (.cells c 2 (0,0))∧∀ j x,l[j]?=some x→c[o+j]?=some (.int .i64 x))
theorem LstN.keep {nb:Nat} {w w':World} {u:Value} {l:List Int} (h:LstN nb w u l) (hk:∀ b c,b≠nb→w.heap[b]?=some (.cells c 2 (0,0))→w'.heap[b]?=some (.cells c 2 (0,0))):LstN nb w' u l:=by
 obtain ⟨a,cap,e,hc,h0,q⟩:=h;exact ⟨a,cap,e,hc,h0,fun hne=>by
  obtain ⟨b,o,c,e1,e2,e3,e4⟩:=q hne;exact ⟨b,o,c,e1,e2,hk b c e2 e3,e4⟩⟩
theorem LstN.ints {nb:Nat} {w:World} {u:Value} {l:List Int} (h:LstN nb w u l):IntsAt w u l:=by
 obtain ⟨a,cap,e,hc,_,q⟩:=h;exact ⟨a,cap,e,fun hne=>by
  obtain ⟨b,o,c,e1,e2,e3,e4⟩:=q hne;exact ⟨b,o,e1,fun j x hj=>(zac e3 _).trans (e4 j x hj)⟩⟩
theorem LstN.nil (nb:Nat) (w:World):LstN nb w (.slice none 0 0) []:=⟨none,0,rfl,yax _,fun _=>rfl,fun h=>absurd rfl h⟩
theorem LstN.of_row {nb N n:Nat} {w:World} {u:Value} {l:List Int} (h:w.ownsRow N 2 1 u n (zaw l)) (hb:∀ g,u.ownBlock=some g→g≠nb):LstN nb w u l:=by
 have hl:l.length=n:=by have:=h.1;rw [zgo] at this;omega
 subst hl;rcases h.2 with ⟨e,q⟩|⟨g,cap,cur,e,q1,q2,q3,q4,q5,q6⟩
 ·rw [e];exact ⟨none,0,by rw [q],by omega,fun _=>rfl,fun hne=>absurd (List.length_eq_zero_iff.1 q) hne⟩
 ·refine ⟨_,cap,e,q3,fun z=>(by cases z),fun hne=>⟨g,0,cur,rfl,hb g (by rw [e];rfl),q2,fun j x hj=>?_⟩⟩;have hlt:=(yai.1 hj).1;have:cur[j]?=(zaw l)[j]?:=by
   rw [← q6,List.getElem?_take_of_lt (by omega)];simp
  rw [Nat.zero_add,this];simp [zaw,hj]
def AnsM (base nb:Nat) (w:World) (v:Value) (l:List Ans):Prop :=
 ∃ vs:List Value,vs.length=l.length∧w.ownsRow base 42 3 v l.length (zf0 l vs)∧∀ (k:Nat) (r:Ans) (u:Value),l[k]?=some r→vs[k]?=some u→LstN nb w u r.l
def zp7 (w0:World) (v:Value) (L:List OpD):Prop:=∃ ao cap,v = .slice ao L.length cap∧OpsIn w0 ao L.length cap L
structure MK where
 w0:World
 base:Nat
 mb:Nat
 nb:Nat
 tb:Nat
 n:Nat
 cN:Nat
 cap:Nat
 vo:Nat→Value
structure MV where
 vL:Value
 va:Nat→Value
 vl:Nat→Value
def KeepM (nb:Nat) (w w':World):Prop:=∀ (b:Nat) (c:Array Value) (t:TypeId),w.heap[b]?=some (Obj.cells c t (0,0))→t≠233→t≠235→t≠42→b≠nb→w'.heap[b]?=some (Obj.cells c t (0,0))
structure MMem (K:MK) (V:MV) (S:GMc) (w:World):Prop where
 mach:w.heap[K.mb]?=some (.cells #[V.vL,.int .i64 S.ser,.slice (some ⟨K.nb,0,none⟩) 64 K.cN,.slice (some ⟨K.tb,0,none⟩) K.n K.cap] 233 (0,0))
 num:∃ c,w.heap[K.nb]?=some (.cells c 2 (0,0))∧64≤c.size∧∀ j,j < 64→c[j]?=some (.int .i64 (S.N j))
 trow:TRow 235 9 K.tb K.n K.cap (fun i=>tcV (K.vo i) (V.va i) (V.vl i) i (S.T i)) w
 lst:LstN K.nb w V.vL S.L
 ans:∀ i,i < K.n→AnsM K.base K.nb w (V.va i) (S.T i).ans
 vls:∀ i,i < K.n→LstN K.nb w (V.vl i) (S.T i).list
 inj:∀ i j,i < K.n→j < K.n→i≠j→∀ g,(V.va i).ownBlock=some g→(V.va j).ownBlock≠some g
 ops:∀ i,i < K.n→zp7 K.w0 (K.vo i) (S.T i).ops
 low:Below K.base K.w0 w
 lo:K.base≤K.mb∧K.base≤K.nb∧K.base≤K.tb
 bs:K.w0.heap.size=K.base
 nn:K.n≤64
section
variable {nb:Nat} {w w' w'':World}
theorem KeepM.refl:KeepM nb w w:=fun _ _ _ h _ _ _ _=>h
theorem KeepM.trans (h:KeepM nb w w') (k:KeepM nb w' w''):KeepM nb w w'':=fun b c t hb h1 h2 h3 h4=>k b c t (h b c t hb h1 h2 h3 h4) h1 h2 h3 h4
theorem KeepM.row (h:KeepM nb w w') {B e sz n:Nat} {v:Value} {xs:List Value} (hr:w.ownsRow B e sz v n xs) (h1:e≠233) (h2:e≠235) (h3:e≠42) (h4:e≠2) (hn:∀ c t,w.heap[nb]?=some (.cells c t (0,0))→t=2):w'.ownsRow B e sz v n xs :=
 zar hr fun g o hg hh=>by
  obtain ⟨cc,hcc⟩:=zal hr hg;rw [← hh,hcc];exact h g _ _ hcc h1 h2 h3 fun z=>h4 (hn _ _ (z▸hcc))
theorem KeepM.lst (h:KeepM nb w w') {u:Value} {l:List Int} (hl:LstN nb w u l):LstN nb w' u l:=hl.keep fun b c hb hc=>h b c 2 hc (by decide) (by decide) (by decide) hb
theorem KeepM.alloc (h:KeepM nb w w') (o:Obj):KeepM nb w (w'.alloc o):=fun b c t hb h1 h2 h3 h4=>by
 have:=h b c t hb h1 h2 h3 h4;exact (Below.heap_alloc _ _ _ (yah.1 this).1).trans this
end
theorem AnsM.keep {base nb:Nat} {w w':World} {v:Value} {l:List Ans} (h:AnsM base nb w v l) (hk:KeepM nb w w') (hb:∀ g,v.ownBlock=some g→w'.heap[g]?=w.heap[g]?):AnsM base nb w' v l:=by
 obtain ⟨vs,h1,h2,h3⟩:=h;exact ⟨vs,h1,zar h2 fun g o hg hh=>(hb g hg).trans hh,fun k r u hr hu=>hk.lst (h3 k r u hr hu)⟩
section
variable {K:MK} {V:MV} {S:GMc} {w w':World}
theorem MMem.size (h:MMem K V S w):K.base≤w.heap.size:=by have:=h.low.size;have:=h.bs;omega
theorem MMem.mbt (h:MMem K V S w):K.mb≠K.nb∧K.mb≠K.tb∧K.nb≠K.tb:=by
 obtain ⟨c,h1,_⟩:=h.num;obtain ⟨cur,h2,_⟩:=h.trow.ex;refine ⟨fun z=>?_,fun z=>?_,fun z=>?_⟩
 ·have:=h.mach;rw [z,h1] at this;simp at this
 ·have:=h.mach;rw [z,h2] at this;simp at this
 ·rw [z,h2] at h1;simp at h1
theorem MMem.ansb (h:MMem K V S w) {i:Nat} (hi:i < K.n) {g:Nat} (hg:(V.va i).ownBlock=some g):g≠K.mb∧g≠K.nb∧g≠K.tb:=by
 obtain ⟨vs,_,h2,_⟩:=h.ans i hi;obtain ⟨cc,hcc⟩:=zal h2 hg;obtain ⟨c,h1,_⟩:=h.num;obtain ⟨cur,h3,_⟩:=h.trow.ex;refine ⟨fun z=>?_,fun z=>?_,fun z=>?_⟩
 ·have:=h.mach;rw [← z,hcc] at this;simp at this
 ·rw [← z,hcc] at h1;simp at h1
 ·rw [← z,hcc] at h3;simp at h3
theorem MMem.other (h:MMem K V S w) (hk:KeepM K.nb w w') (h1:w'.heap[K.mb]?=w.heap[K.mb]?) (h2:w'.heap[K.nb]?=w.heap[K.nb]?) (h3:w'.heap[K.tb]?=w.heap[K.tb]?) (h4:∀ i,i < K.n→∀ g,(V.va i).ownBlock=some g→w'.heap[g]?=w.heap[g]?) (hl:Below K.base K.w0 w'):MMem K V S w':=by
 obtain ⟨c,n1,n2⟩:=h.num;exact ⟨h1.trans h.mach,⟨c,h2.trans n1,n2⟩,h.trow.keep h3,hk.lst h.lst,fun i hi=>(h.ans i hi).keep hk (h4 i hi),fun i hi=>hk.lst (h.vls i hi),h.inj,h.ops,hl,h.lo,h.bs,h.nn⟩
theorem MMem.below (h:MMem K V S w) {N:Nat} (hb:Below N w w') (hN:w.heap.size=N):MMem K V S w'∧KeepM K.nb w w':=by
 have hk:KeepM K.nb w w':=fun b c t hb' _ _ _ _=>(hb.block b (by rw [← hN];exact (yah.1 hb').1)).trans hb';have same:∀ {b:Nat} {c:Array Value} {t:TypeId},w.heap[b]?=some (.cells c t (0,0))→w'.heap[b]?=w.heap[b]?:=fun {b c t} hb'=>hb.block b (by rw [← hN];exact (yah.1 hb').1);obtain ⟨c,n1,_⟩:=h.num;obtain ⟨cur,t1,_⟩:=h.trow.ex;refine ⟨h.other hk (same h.mach) (same n1) (same t1) (fun i hi g hg=>?_) (h.low.trans (hb.mono (by have:=h.size;omega))),hk⟩;obtain ⟨vs,_,h2,_⟩:=h.ans i hi;obtain ⟨cc,hcc⟩:=zal h2 hg;exact same hcc
theorem MMem.drew (h:MMem K V S w):MMem K V S w.drew :=
 ⟨h.mach,h.num,⟨h.trow.ex⟩,h.lst,fun i hi=>let ⟨vs,a,b,c⟩:=h.ans i hi;⟨vs,a,b,c⟩,h.vls,h.inj,h.ops,h.low.drew,h.lo,h.bs,h.nn⟩
theorem MMem.alloc (h:MMem K V S w) (o:Obj):MMem K V S (w.alloc o):=(h.below ((Below.refl _ _).alloc (yax _) o) rfl).1
theorem MMem.setT (h:MMem K V S w) {i:Nat} (hi:i < K.n) {k:Nat} (hk:k < 9) (v vl':Value) (t':GT) (hc:(tcV (K.vo i) (V.va i) (V.vl i) i (S.T i)).set k v=tcV (K.vo i) (V.va i) vl' i t') (ho:t'.ops=(S.T i).ops) (ha:t'.ans=(S.T i).ans) (hl:LstN K.nb w vl' t'.list) :
  MMem K { V with vl:=upd V.vl i vl' } (S.setT i t') (w.setCell ⟨K.tb,i * 9+k,none⟩ v)∧KeepM K.nb w (w.setCell ⟨K.tb,i * 9+k,none⟩ v):=by
 obtain ⟨m1,m2,m3⟩:=h.mbt;obtain ⟨cur,t1,_⟩:=h.trow.ex;have off:∀ b,b≠K.tb→(w.setCell ⟨K.tb,i * 9+k,none⟩ v).heap[b]?=w.heap[b]?:=fun b hb=>Below.heap_setCell _ _ _ _ hb;have hkp:KeepM K.nb w (w.setCell ⟨K.tb,i * 9+k,none⟩ v):=fun b c t hb _ h2 _ _=>(off b fun z=>by rw [z,t1] at hb;simp at hb;exact h2 hb.2.symm).trans hb;obtain ⟨c,n1,n2⟩:=h.num;refine ⟨⟨(off _ m2).trans h.mach,⟨c,(off _ m3).trans n1,n2⟩,?_,hkp.lst h.lst,fun j hj=>?_,fun j hj=>?_,h.inj,fun j hj=>?_,h.low.setCell h.lo.2.2 _,h.lo,h.bs,h.nn⟩,hkp⟩
 ·have:=h.trow.put hi hk rfl v;refine ⟨?_⟩;obtain ⟨cur',q1,q2,q3,q4,q5⟩:=this.ex;refine ⟨cur',q1,q2,q3,q4,fun j hj m hm=>(q5 j hj m hm).trans ?_⟩;by_cases e:j=i
  ·subst e;simp only [upd_same,GMc.setT];rw [hc]
  ·simp only [upd_ne _ _ e,GMc.setT]
 ·have h0:AnsM K.base K.nb (w.setCell ⟨K.tb,i * 9+k,none⟩ v) (V.va j) (S.T j).ans:=(h.ans j hj).keep hkp fun g hg=>off g (h.ansb hj hg).2.2;by_cases e:j=i
  ·subst e;show AnsM _ _ _ _ ((upd S.T j t') j).ans;rw [upd_same,ha];exact h0
  ·show AnsM _ _ _ _ ((upd S.T i t') j).ans;rw [upd_ne _ _ e];exact h0
 ·by_cases e:j=i
  ·subst e;show LstN _ _ (upd V.vl j vl' j) ((upd S.T j t') j).list;rw [upd_same,upd_same];exact hkp.lst hl
  ·show LstN _ _ (upd V.vl i vl' j) ((upd S.T i t') j).list;rw [upd_ne _ _ e,upd_ne _ _ e];exact hkp.lst (h.vls j hj)
 ·by_cases e:j=i
  ·subst e;show zp7 _ _ ((upd S.T j t') j).ops;rw [upd_same,ho];exact h.ops j hj
  ·show zp7 _ _ ((upd S.T i t') j).ops;rw [upd_ne _ _ e];exact h.ops j hj
theorem MMem.setAt (h:MMem K V S w) {i:Nat} (hi:i < K.n) {t:GT} (ht:S.T i=t) (a:Nat):∃ V',MMem K V' (S.setT i { t with at_:=a }) (w.setCell ⟨K.tb,i * 9+3,none⟩ (.int .i64 a))∧KeepM K.nb w (w.setCell ⟨K.tb,i * 9+3,none⟩ (.int .i64 a)):=by
 subst ht;exact ⟨_,h.setT hi (k:=3) (by decide) _ (V.vl i) _ rfl rfl rfl (h.vls i hi)⟩
theorem MMem.setPc (h:MMem K V S w) {i:Nat} (hi:i < K.n) {t:GT} (ht:S.T i=t) (a:Int):∃ V',MMem K V' (S.setT i { t with pc:=a }) (w.setCell ⟨K.tb,i * 9+4,none⟩ (.int .i64 a))∧KeepM K.nb w (w.setCell ⟨K.tb,i * 9+4,none⟩ (.int .i64 a)):=by
 subst ht;exact ⟨_,h.setT hi (k:=4) (by decide) _ (V.vl i) _ rfl rfl rfl (h.vls i hi)⟩
theorem MMem.setList (h:MMem K V S w) {i:Nat} (hi:i < K.n) {t:GT} (ht:S.T i=t) {u:Value} {l:List Int} (hu:LstN K.nb w u l):∃ V',MMem K V' (S.setT i { t with list:=l }) (w.setCell ⟨K.tb,i * 9+5,none⟩ u)∧KeepM K.nb w (w.setCell ⟨K.tb,i * 9+5,none⟩ u):=by
 subst ht;exact ⟨_,h.setT hi (k:=5) (by decide) _ u _ rfl rfl rfl hu⟩
theorem MMem.setTSer (h:MMem K V S w) {i:Nat} (hi:i < K.n) {t:GT} (ht:S.T i=t) (a:Int):∃ V',MMem K V' (S.setT i { t with ser:=a }) (w.setCell ⟨K.tb,i * 9+6,none⟩ (.int .i64 a))∧KeepM K.nb w (w.setCell ⟨K.tb,i * 9+6,none⟩ (.int .i64 a)):=by
 subst ht;exact ⟨_,h.setT hi (k:=6) (by decide) _ (V.vl i) _ rfl rfl rfl (h.vls i hi)⟩
theorem MMem.setLeast (h:MMem K V S w) {i:Nat} (hi:i < K.n) {t:GT} (ht:S.T i=t) (a:Int):∃ V',MMem K V' (S.setT i { t with least:=a }) (w.setCell ⟨K.tb,i * 9+7,none⟩ (.int .i64 a))∧KeepM K.nb w (w.setCell ⟨K.tb,i * 9+7,none⟩ (.int .i64 a)):=by
 subst ht;exact ⟨_,h.setT hi (k:=7) (by decide) _ (V.vl i) _ rfl rfl rfl (h.vls i hi)⟩
theorem MMem.setPlace (h:MMem K V S w) {i:Nat} (hi:i < K.n) {t:GT} (ht:S.T i=t) (a:Int):∃ V',MMem K V' (S.setT i { t with place:=a }) (w.setCell ⟨K.tb,i * 9+8,none⟩ (.int .i64 a))∧KeepM K.nb w (w.setCell ⟨K.tb,i * 9+8,none⟩ (.int .i64 a)):=by
 subst ht;exact ⟨_,h.setT hi (k:=8) (by decide) _ (V.vl i) _ rfl rfl rfl (h.vls i hi)⟩
theorem MMem.cellT (h:MMem K V S w) {i:Nat} (hi:i < K.n) {k:Nat} (hk:k < 9):w.cell? ⟨K.tb,i * 9+k,none⟩=(tcV (K.vo i) (V.va i) (V.vl i) i (S.T i))[k]?:=h.trow.cell hi hk
theorem MMem.cellM (h:MMem K V S w) (k:Nat):w.cell? ⟨K.mb,k,none⟩=(#[V.vL,.int .i64 S.ser,.slice (some ⟨K.nb,0,none⟩) 64 K.cN,.slice (some ⟨K.tb,0,none⟩) K.n K.cap]:Array Value)[k]?:=zac h.mach k
theorem MMem.cellN (h:MMem K V S w) {j:Nat} (hj:j < 64):w.cell? ⟨K.nb,j,none⟩=some (.int .i64 (S.N j)):=by
 obtain ⟨c,n1,n2,n3⟩:=h.num;exact (zac n1 j).trans (n3 j hj)
theorem MMem.setN (h:MMem K V S w) {j:Nat} (hj:j < 64) (v:Int):MMem K V { S with N:=upd S.N j v } (w.setCell ⟨K.nb,j,none⟩ (.int .i64 v))∧KeepM K.nb w (w.setCell ⟨K.nb,j,none⟩ (.int .i64 v)):=by
 obtain ⟨m1,m2,m3⟩:=h.mbt;have off:∀ b,b≠K.nb→(w.setCell ⟨K.nb,j,none⟩ (.int .i64 v)).heap[b]?=w.heap[b]?:=fun b hb=>Below.heap_setCell _ _ _ _ hb;have hkp:KeepM K.nb w (w.setCell ⟨K.nb,j,none⟩ (.int .i64 v)):=fun b c t hb _ _ _ h4=>(off b h4).trans hb;obtain ⟨c,n1,n2,n3⟩:=h.num;refine ⟨⟨(off _ m1).trans h.mach,⟨_,za3 n1 _ _,by simpa using n2,fun i hi=>?_⟩,h.trow.keep (off _ (Ne.symm m3)),hkp.lst h.lst,fun i hi=>(h.ans i hi).keep hkp fun g hg=>off g (h.ansb hi hg).2.1,fun i hi=>hkp.lst (h.vls i hi),h.inj,h.ops,h.low.setCell h.lo.2.1 _,h.lo,h.bs,h.nn⟩,hkp⟩;rw [Array.getElem?_setIfInBounds];by_cases e:j=i
 ·subst e;rw [if_pos rfl,if_pos (by omega)];simp only [upd_same]
 ·rw [if_neg e,n3 i hi];simp only [upd_ne _ _ (Ne.symm e)]
theorem MMem.setM (h:MMem K V S w) {k:Nat} (v vL':Value) (L':List Int) (ser':Int) (hc:(#[V.vL,.int .i64 S.ser,.slice (some ⟨K.nb,0,none⟩) 64 K.cN,.slice (some ⟨K.tb,0,none⟩) K.n K.cap]:Array Value).setIfInBounds k v=#[vL',.int .i64 ser',.slice (some ⟨K.nb,0,none⟩) 64 K.cN,.slice (some ⟨K.tb,0,none⟩) K.n K.cap]) (hl:LstN K.nb w vL' L') :
  MMem K { V with vL:=vL' } { S with L:=L',ser:=ser' } (w.setCell ⟨K.mb,k,none⟩ v)∧KeepM K.nb w (w.setCell ⟨K.mb,k,none⟩ v):=by
 obtain ⟨m1,m2,m3⟩:=h.mbt;have off:∀ b,b≠K.mb→(w.setCell ⟨K.mb,k,none⟩ v).heap[b]?=w.heap[b]?:=fun b hb=>Below.heap_setCell _ _ _ _ hb;have hkp:KeepM K.nb w (w.setCell ⟨K.mb,k,none⟩ v):=fun b c t hb h1 _ _ _=>(off b fun z=>by have:=h.mach;rw [← z,hb] at this;simp at this;exact h1 this.2).trans hb;obtain ⟨c,n1,n2⟩:=h.num;have hs:=za3 h.mach k v;rw [hc] at hs;exact ⟨⟨hs,⟨c,(off _ (Ne.symm m1)).trans n1,n2⟩,h.trow.keep (off _ (Ne.symm m2)),hkp.lst hl,fun i hi=>(h.ans i hi).keep hkp fun g hg=>off g (h.ansb hi hg).1,fun i hi=>hkp.lst (h.vls i hi),h.inj,h.ops,h.low.setCell h.lo.1 _,h.lo,h.bs,h.nn⟩,hkp⟩
theorem MMem.answered (h:MMem K V S w) {i:Nat} (hi:i < K.n) {r:Ans} {u v':Value} {w2:World} (hu:LstN K.nb w u r.l) {vs:List Value} (hvs:vs.length=(S.T i).ans.length) (hlst:∀ (k:Nat) (r:Ans) (u:Value),(S.T i).ans[k]?=some r→vs[k]?=some u→LstN K.nb w u r.l)
  (ho:w2.ownsRow K.base 42 3 v' ((S.T i).ans.length+1) (zf0 (S.T i).ans vs++zul r u)) (hg:w.grownBy w2 (V.va i).ownBlock) (hsh:∀ g,v'.ownBlock=some g→(V.va i).ownBlock=some g∨w.heap.size≤g) :
  w2.heap[K.mb]?=w.heap[K.mb]?∧(∀ k,k < 9→w2.cell? ⟨K.tb,i * 9+k,none⟩=w.cell? ⟨K.tb,i * 9+k,none⟩)∧(w2.frozen? ⟨K.tb,i * 9+1,none⟩=false) ∧
  MMem K { V with va:=upd V.va i v' } (S.setT i { S.T i with ans:=(S.T i).ans++[r] }) (w2.setCell ⟨K.tb,i * 9+1,none⟩ v')∧KeepM K.nb w (w2.setCell ⟨K.tb,i * 9+1,none⟩ v'):=by
 obtain ⟨m1,m2,m3⟩:=h.mbt;obtain ⟨cur,t1,t2⟩:=h.trow.ex;obtain ⟨c,n1,n2⟩:=h.num;have kt:∀ {b:Nat} {cs:Array Value} {e:TypeId},w.heap[b]?=some (.cells cs e (0,0))→e≠42→w2.heap[b]?=some (.cells cs e (0,0)):=fun {b cs e} hb he =>
  (hg.block b (yah.1 hb).1 fun z=>by
   obtain ⟨vs0,_,h2,_⟩:=h.ans i hi;obtain ⟨cc,hcc⟩:=zal h2 z.symm;rw [hb] at hcc;simp at hcc;exact he hcc.2).trans hb
 have tt:w2.heap[K.tb]?=w.heap[K.tb]?:=(kt t1 (by decide)).trans t1.symm;have off:∀ b,b≠K.tb→(w2.setCell ⟨K.tb,i * 9+1,none⟩ v').heap[b]?=w2.heap[b]?:=fun b hb=>Below.heap_setCell _ _ _ _ hb;have hkp:KeepM K.nb w (w2.setCell ⟨K.tb,i * 9+1,none⟩ v'):=fun b c t hb _ h2 h3 _=>(off b fun z=>by rw [z,t1] at hb;simp at hb;exact h2 hb.2.symm).trans (kt hb h3);have hrow2:TRow 235 9 K.tb K.n K.cap (fun i=>tcV (K.vo i) (V.va i) (V.vl i) i (S.T i)) w2:=h.trow.keep tt;refine ⟨(kt h.mach (by decide)).trans h.mach.symm,fun k hk=>(hrow2.cell hi hk).trans (h.trow.cell hi hk).symm,hrow2.free _,⟨(off _ m2).trans (kt h.mach (by decide)),⟨c,(off _ m3).trans (kt n1 (by decide)),n2⟩,?_,hkp.lst h.lst,fun j hj=>?_,fun j hj=>?_,fun j k hj hk hjk g h1 h2=>?_,fun j hj=>?_,?_,h.lo,h.bs,h.nn⟩,hkp⟩
 ·have:=hrow2.put hi (k:=1) (by decide) rfl v';refine ⟨?_⟩;obtain ⟨cur',q1,q2,q3,q4,q5⟩:=this.ex;refine ⟨cur',q1,q2,q3,q4,fun j hj m hm=>(q5 j hj m hm).trans ?_⟩;by_cases e:j=i
  ·subst e;simp only [upd_same,GMc.setT,tcV,yam,yal]
  ·simp only [upd_ne _ _ e,GMc.setT]
 ·by_cases e:j=i
  ·subst e;show AnsM _ _ _ (upd V.va j v' j) ((upd S.T j _) j).ans;rw [upd_same,upd_same];refine ⟨vs++[u],by simp [hvs],?_,fun k r' u' hr hu'=>?_⟩
   ·show World.ownsRow _ _ _ _ _ ((S.T j).ans++[r]).length (zf0 ((S.T j).ans++[r]) (vs++[u]));rw [zmz hvs,List.length_append];exact zar ho fun g o hg' hh=>(off g fun z=>by
     obtain ⟨cc,hcc⟩:=zal ho hg';rw [z,kt t1 (by decide)] at hcc;simp at hcc).trans hh
   ·replace hr:((S.T j).ans++[r])[k]?=some r':=hr;by_cases hk:k < (S.T j).ans.length
    ·rw [List.getElem?_append_left hk] at hr;rw [List.getElem?_append_left (by omega)] at hu';exact hkp.lst (hlst k r' u' hr hu')
    ·have hk2:k=(S.T j).ans.length:=by
      have:=(yai.1 hr).1;simp at this;omega
     subst hk2;rw [List.getElem?_append_right (yax _)] at hr;rw [← hvs,List.getElem?_append_right (yax _)] at hu';simp at hr hu';subst hr hu';exact hkp.lst hu
  ·show AnsM _ _ _ (upd V.va i v' j) ((upd S.T i _) j).ans;rw [upd_ne _ _ e,upd_ne _ _ e];refine (h.ans j hj).keep hkp fun g hg'=>?_;obtain ⟨vs0,_,h2,_⟩:=h.ans j hj;obtain ⟨cc,hcc⟩:=zal h2 hg';have hlt:=(yah.1 hcc).1;exact (off g (h.ansb hj hg').2.2).trans (hg.block g hlt fun z=>h.inj j i hj hi e g hg' z.symm)
 ·show LstN _ _ (V.vl j) ((upd S.T i _) j).list;by_cases e:j=i
  ·subst e;rw [upd_same];exact hkp.lst (h.vls j hj)
  ·rw [upd_ne _ _ e];exact hkp.lst (h.vls j hj)
 ·have key:∀ {a b:Nat},a < K.n→b < K.n→a≠b→b=i→∀ g,(V.va a).ownBlock=some g→v'.ownBlock≠some g:=fun {a b} ha hb hab hbi g h1 h2=>by
   obtain ⟨vs0,_,h3,_⟩:=h.ans a ha;obtain ⟨cc,hcc⟩:=zal h3 h1;have hlt:=(yah.1 hcc).1;rcases hsh g h2 with q|q
   ·exact h.inj a i ha hi (hbi▸hab) g h1 q
   ·omega
  by_cases e:j=i
  ·subst e;simp only [upd_same,upd_ne _ _ (Ne.symm hjk)] at h1 h2;exact key hk hj (Ne.symm hjk) rfl g h2 h1
  ·simp only [upd_ne _ _ e] at h1;by_cases e2:k=i
   ·subst e2;simp only [upd_same] at h2;exact key hj hk hjk rfl g h1 h2
   ·simp only [upd_ne _ _ e2] at h2;exact h.inj j k hj hk hjk g h1 h2
 ·show zp7 _ _ ((upd S.T i _) j).ops;by_cases e:j=i
  ·subst e;rw [upd_same];exact h.ops j hj
  ·rw [upd_ne _ _ e];exact h.ops j hj
 ·have hb:=h.low;have hlo:=h.lo;refine (Below.setCell ?_ hlo.2.2 _);refine ⟨hg.os.trans hb.os,hg.tape.trans hb.tape,hg.output.trans hb.output,Nat.le_trans hb.size hg.size,fun b hlt=>(hg.block b (by have:=h.size;omega) fun z=>?_).trans (hb.block b hlt)⟩;obtain ⟨vs0,_,h2,_⟩:=h.ans i hi;have:=(zbc h2 z.symm).1;omega
end
end Go.Proofs.Ytofacoojpgkbiaa
