/-
  A part of a proof. No condition of its own.
-/
import Derived.Test.YtofacoojpgkbiaaCBxP19
import Derived.Deep.RegionLaw
set_option linter.unusedVariables false
set_option maxHeartbeats 8000000
set_option linter.unusedSimpArgs false
namespace Go.Proofs.Ytofacoojpgkbiaa
open Go.Conc Go.RowKit
open Go.ConcN (upd upd_ne upd_same)
set_option maxRecDepth 100000
theorem zkr (w:World) (x y:Value) (t:TypeId):(w.alloc (.cells #[x] t)).setCell ⟨w.heap.size,0,none⟩ y=w.alloc (.cells #[y] t):=by
 have hc:=heap_alloc_new w (.cells #[x] t);have hh:((w.alloc (.cells #[x] t)).setCell ⟨w.heap.size,0,none⟩ y).heap=(w.alloc (.cells #[y] t)).heap:=by
  apply Array.ext_getElem?;intro b;by_cases z:b=w.heap.size
  ·subst z;rw [zaz hc 0 y,heap_alloc_new];rfl
  ·rw [Below.heap_setCell _ _ _ _ z];rcases Nat.lt_or_ge b w.heap.size with q|q
   ·rw [Below.heap_alloc _ _ _ q,Below.heap_alloc _ _ _ q]
   ·rw [Array.getElem?_eq_none (by simp;omega),Array.getElem?_eq_none (by simp;omega)]
 obtain ⟨h,t,d,o,u⟩:=w;simp only [World.setCell,World.alloc] at hh ⊢;rw [hh]
theorem zkq (w:World) (x y:Value) (t:TypeId) (ob:Obj):((w.alloc (.cells #[x] t)).alloc ob).setCell ⟨w.heap.size,0,none⟩ y=(w.alloc (.cells #[y] t)).alloc ob:=by
 have s1:∀ v,(w.alloc (.cells #[v] t)).heap.size=w.heap.size+1:=fun v=>by simp
 have hc:((w.alloc (.cells #[x] t)).alloc ob).heap[w.heap.size]?=some (.cells #[x] t (0,0)):=(Below.heap_alloc _ _ _ (by rw [s1];omega)).trans (heap_alloc_new w (.cells #[x] t));have hd:((w.alloc (.cells #[y] t)).alloc ob).heap[w.heap.size]?=some (.cells #[y] t (0,0)):=(Below.heap_alloc _ _ _ (by rw [s1];omega)).trans (heap_alloc_new w (.cells #[y] t));have hh:(((w.alloc (.cells #[x] t)).alloc ob).setCell ⟨w.heap.size,0,none⟩ y).heap=((w.alloc (.cells #[y] t)).alloc ob).heap:=by
  apply Array.ext_getElem?;intro b;by_cases z:b=w.heap.size
  ·subst z;rw [zaz hc 0 y,hd];rfl
  ·rw [Below.heap_setCell _ _ _ _ z];rcases Nat.lt_or_ge b w.heap.size with q|q
   ·exact ((Below.heap_alloc _ _ _ (by rw [s1];omega)).trans (Below.heap_alloc _ _ _ q)).trans ((Below.heap_alloc _ _ _ (by rw [s1];omega)).trans (Below.heap_alloc _ _ _ q)).symm
   ·rcases Nat.lt_or_ge b (w.heap.size+1+1) with q2|q2
    ·obtain rfl:b=w.heap.size+1:=by omega
     have h1:=heap_alloc_new (w.alloc (.cells #[x] t)) ob;have h2:=heap_alloc_new (w.alloc (.cells #[y] t)) ob;rw [s1] at h1 h2;rw [h1,h2]
    ·rw [Array.getElem?_eq_none (by simp;omega),Array.getElem?_eq_none (by simp;omega)]
 obtain ⟨h,t,d,o,u⟩:=w;simp only [World.setCell,World.alloc] at hh ⊢;rw [hh]
theorem zh6 (v:Int) (w:World):Calls Try.prog 32 #[.int .i64 v] w fun e w'=>e = .returned (.pointer (some ⟨w.heap.size,0,none⟩))∧w.alloc (.cells #[.int .i64 v] 102)=w':=by
 have hc:=heap_alloc_new w (.cells #[.int .i64 0] 102);have h1:=zl2 w.heap.size 0 0 v (w.alloc (.cells #[.int .i64 0] 102)) (by rw [zae hc 0];rfl) (zau hc 0);rw [zkr] at h1;go_enter Try.func32,Try.ntmps32
 go_wp2_with (go_at_call 83;refine h1.mono ?_;rintro e w' ⟨rfl,rfl⟩)
 go_ret
 exact ⟨rfl,rfl⟩
theorem zmx (v:Bool) (w:World):Calls Try.prog 33 #[.bool v] w fun e w'=>e = .returned (.pointer (some ⟨w.heap.size,0,none⟩))∧(w.alloc (.cells #[.int .u32 (bit v)] 107)).drew=w':=by
 have hc:=heap_alloc_new w (.cells #[.int .u32 0] 107);have h1:=zto w.heap.size 0 false v (w.alloc (.cells #[.int .u32 0] 107)) (by rw [zae hc 0];rfl) (zau hc 0);rw [zkr] at h1;go_enter Try.func33,Try.ntmps33
 go_wp2_with (go_at_call 100;refine h1.mono ?_;rintro e w' ⟨rfl,rfl⟩)
 go_ret
 exact ⟨rfl,rfl⟩
theorem zog (v:Int) (w:World):Calls Try.prog 34 #[.int .i64 v] w fun e w'=>e = .returned (.pointer (some ⟨w.heap.size,0,none⟩))∧(w.alloc (.cells #[.pointer (some ⟨w.heap.size+1,0,none⟩)] 113)).alloc (.cells #[.int .i64 v,.int .i64 0] 184)=w':=by
 have s1:(w.alloc (.cells #[.pointer none] 113)).heap.size=w.heap.size+1:=by simp
 have hk:=heap_alloc_new (w.alloc (.cells #[.pointer none] 113)) (.cells #[.int .i64 v,.int .i64 0] 184);rw [s1] at hk;have hc:((w.alloc (.cells #[.pointer none] 113)).alloc (.cells #[.int .i64 v,.int .i64 0] 184)).heap[w.heap.size]?=some (.cells #[.pointer none] 113 (0,0)):=(Below.heap_alloc _ _ _ (by rw [s1];omega)).trans (heap_alloc_new w _);have h1:=ptrStoreI w.heap.size 0 (p:=none) (q:=some ⟨w.heap.size+1,0,none⟩) (v:=v) ((w.alloc (.cells #[.pointer none] 113)).alloc (.cells #[.int .i64 v,.int .i64 0] 184)) (by rw [zae hc 0];rfl) (zau hc 0) (.inr ⟨_,rfl,hk⟩);rw [zkq] at h1;replace hk:=yay hk;replace hc:=yay hc;go_enter Try.func34,Try.ntmps34
 go_wp2_with (go_at_call 101;refine h1.mono ?_;rintro e w' ⟨rfl,rfl⟩)
 go_ret
 exact ⟨rfl,rfl⟩
def znn (b:Nat→Nat) (k:Nat):List Value:=(List.range k).map fun j=>gpv (b j)
theorem zjo (b:Nat→Nat) (k x:Nat):znn (upd b k x) (k+1)=znn b k++[gpv x]:=by
 unfold znn;rw [List.range_succ,List.map_append];congr 1
 ·apply List.map_congr_left;intro j hj;rw [upd_ne _ _ (by have:=List.mem_range.1 hj;omega)]
 ·simp [upd_same]
theorem zu6 {b:Nat→Nat} {k i:Nat} (h:i < k):(znn b k)[i]?=some (gpv (b i)):=by simp [znn,h]
structure MkM (w0:World) (N:Nat) (l:List Int) (a b c:Nat) (wb fb bb kb:Nat→Nat) (vw vf vb:Value) (w:World):Prop where
 pl:w.heap[N]?=some (.cells #[vw,vf,vb] 256 (0,0))
 rw_:w.ownsRow N 73 1 vw a (znn wb a)
 rf_:w.ownsRow N 75 1 vf b (znn fb b)
 rb_:w.ownsRow N 77 1 vb c (znn bb c)
 wo:∀ i,i < a→N≤wb i∧w.heap[wb i]?=some (.cells #[.int .i64 (l.getD i 0)] 102 (0,0))
 fl:∀ i,i < b→N≤fb i∧w.heap[fb i]?=some (.cells #[.int .u32 (bit false)] 107 (0,0))
 bo:∀ i,i < c→N≤bb i∧w.heap[bb i]?=some (.cells #[.pointer (some ⟨kb i,0,none⟩)] 113 (0,0))∧N≤kb i∧w.heap[kb i]?=some (.cells #[.int .i64 (l.getD i 0),.int .i64 0] 184 (0,0))
 wi:∀ i j,i < a→j < a→wb i=wb j→i=j
 fi:∀ i j,i < b→j < b→fb i=fb j→i=j
 bi:∀ i j,i < c→j < c→bb i=bb j→i=j
 ki:∀ i j,i < c→j < c→kb i=kb j→i=j
 low:Below N w0 w
 lt:N < w.heap.size
section
variable {w0 w w1 w2:World} {N:Nat} {l:List Int} {a b c:Nat} {wb fb bb kb:Nat→Nat} {vw vf vb v':Value}
theorem MkM.more (h:MkM w0 N l a b c wb fb bb kb vw vf vb w) (hs:w.heap.size≤w1.heap.size) (hk:∀ b,b < w.heap.size→w1.heap[b]?=w.heap[b]?) (hl:Below N w0 w1):MkM w0 N l a b c wb fb bb kb vw vf vb w1:=by
 have k:∀ {b:Nat} {o:Obj},w.heap[b]?=some o→w1.heap[b]?=some o:=fun {b o} e=>(hk b (yah.1 e).1).trans e;exact ⟨k h.pl,zaq h.rw_ fun g o _ hh=>k hh,zaq h.rf_ fun g o _ hh=>k hh,zaq h.rb_ fun g o _ hh=>k hh,fun i hi=>⟨(h.wo i hi).1,k (h.wo i hi).2⟩,fun i hi=>⟨(h.fl i hi).1,k (h.fl i hi).2⟩,
  fun i hi=>⟨(h.bo i hi).1,k (h.bo i hi).2.1,(h.bo i hi).2.2.1,k (h.bo i hi).2.2.2⟩,h.wi,h.fi,h.bi,h.ki,hl,by have:=h.lt;omega⟩
theorem MkM.alloc (h:MkM w0 N l a b c wb fb bb kb vw vf vb w) (o:Obj):MkM w0 N l a b c wb fb bb kb vw vf vb (w.alloc o) :=
 h.more (by simp) (fun b hb=>Below.heap_alloc _ _ _ hb) (h.low.alloc (by have:=h.lt;omega) o)
theorem MkM.drew (h:MkM w0 N l a b c wb fb bb kb vw vf vb w):MkM w0 N l a b c wb fb bb kb vw vf vb w.drew:=h.more (yax _) (fun _ _=>rfl) h.low.drew
theorem zoh {e k n:Nat} {v v':Value} {xs:List Value} (hp:∃ cs,w1.heap[N]?=some (.cells cs 256 (0,0))) (hr:w1.ownsRow N e 1 v n xs) (hg:w1.grownBy w2 v.ownBlock) (he:e≠256) :
  (∀ (b:Nat) (cc:Array Value) (t:TypeId),w1.heap[b]?=some (.cells cc t (0,0))→t≠e→t≠256→(w2.setCell ⟨N,k,none⟩ v').heap[b]?=some (.cells cc t (0,0)))∧w2.heap[N]?=w1.heap[N]?:=by
 obtain ⟨cs,hp⟩:=hp;have hN:w2.heap[N]?=w1.heap[N]?:=hg.block N (yah.1 hp).1 fun z=>by
  obtain ⟨cc,hcc⟩:=za4 hr z.symm;rw [hp] at hcc;simp at hcc;exact he hcc.2.symm
 refine ⟨fun b cc t hb h1 h2=>?_,hN⟩;rw [Below.heap_setCell _ _ _ _ (fun z=>by rw [z,hp] at hb;simp at hb;exact h2 hb.2.symm)];exact (hg.block b (yah.1 hb).1 fun z=>by
  obtain ⟨cd,hcd⟩:=za4 hr z.symm;rw [hb] at hcd;simp at hcd;exact h1 hcd.2).trans hb
theorem MkM.word (h:MkM w0 N l a b c wb fb bb kb vw vf vb w1) {W:Nat} (hW:w1.heap[W]?=some (.cells #[.int .i64 (l.getD a 0)] 102 (0,0))) (hN:N≤W) (hf:∀ i,i < a→wb i≠W) (hA:zdp w1 N 73 vw a 1 (znn wb a++[gpv W]) v' w2) :
  w2.heap[N]?=w1.heap[N]?∧MkM w0 N l (a+1) b c (upd wb a W) fb bb kb v' vf vb (w2.setCell ⟨N,0,none⟩ v'):=by
 obtain ⟨ho,hg,_⟩:=hA;obtain ⟨kp,hmb⟩:=zoh (w2:=w2) (k:=0) (v':=v') ⟨_,h.pl⟩ h.rw_ hg (by decide);have row:∀ {e n:Nat} {v:Value} {xs:List Value},w1.ownsRow N e 1 v n xs→e≠73→e≠256→(w2.setCell ⟨N,0,none⟩ v').ownsRow N e 1 v n xs:=fun {e n v xs} hr h1 h2=>zaq hr fun g o hgg hh=>by
  obtain ⟨cc,hcc⟩:=za4 hr hgg;rw [← hh,hcc];exact kp g cc e hcc h1 h2
 have own:(w2.setCell ⟨N,0,none⟩ v').ownsRow N 73 1 v' (a+1) (znn (upd wb a W) (a+1)):=by
  rw [zjo];refine zaq ho fun g o hgg hh=>?_;obtain ⟨cc,hcc⟩:=za4 ho hgg;rw [Below.heap_setCell _ _ _ _ (fun z=>by rw [z,hmb,h.pl] at hcc;simp at hcc)];exact hh
 have inj:∀ i j,i < a+1→j < a+1→upd wb a W i=upd wb a W j→i=j:=fun i j hi hj q=>by
  by_cases x:i=a
  ·by_cases y:j=a
   ·omega
   ·rw [x,upd_same,upd_ne _ _ y] at q;exact absurd q.symm (hf j (by omega))
  ·by_cases y:j=a
   ·rw [y,upd_same,upd_ne _ _ x] at q;exact absurd q (hf i (by omega))
   ·rw [upd_ne _ _ x,upd_ne _ _ y] at q;exact h.wi i j (by omega) (by omega) q
 refine ⟨hmb,zaz (hmb.trans h.pl) 0 v',own,row h.rf_ (by decide) (by decide),row h.rb_ (by decide) (by decide),fun i hi=>?_,fun i hi=>?_,fun i hi=>?_,inj,h.fi,h.bi,h.ki,(zew h.rw_ h.low (by have:=h.lt;omega) hg).setCell (yax _) _,by have:=h.lt;have:=hg.size;simp [World.setCell];omega⟩
 ·by_cases x:i=a
  ·subst x;rw [upd_same];exact ⟨hN,kp _ _ _ hW (by decide) (by decide)⟩
  ·rw [upd_ne _ _ x];exact ⟨(h.wo i (by omega)).1,kp _ _ _ (h.wo i (by omega)).2 (by decide) (by decide)⟩
 ·exact ⟨(h.fl i hi).1,kp _ _ _ (h.fl i hi).2 (by decide) (by decide)⟩
 ·obtain ⟨a1,a2,a3,a4⟩:=h.bo i hi;exact ⟨a1,kp _ _ _ a2 (by decide) (by decide),a3,kp _ _ _ a4 (by decide) (by decide)⟩
theorem MkM.flag (h:MkM w0 N l a b c wb fb bb kb vw vf vb w1) {W:Nat} (hW:w1.heap[W]?=some (.cells #[.int .u32 (bit false)] 107 (0,0))) (hN:N≤W) (hf:∀ i,i < b→fb i≠W) (hA:zdp w1 N 75 vf b 1 (znn fb b++[gpv W]) v' w2) :
  w2.heap[N]?=w1.heap[N]?∧MkM w0 N l a (b+1) c wb (upd fb b W) bb kb vw v' vb (w2.setCell ⟨N,1,none⟩ v'):=by
 obtain ⟨ho,hg,_⟩:=hA;obtain ⟨kp,hmb⟩:=zoh (w2:=w2) (k:=1) (v':=v') ⟨_,h.pl⟩ h.rf_ hg (by decide);have row:∀ {e n:Nat} {v:Value} {xs:List Value},w1.ownsRow N e 1 v n xs→e≠75→e≠256→(w2.setCell ⟨N,1,none⟩ v').ownsRow N e 1 v n xs:=fun {e n v xs} hr h1 h2=>zaq hr fun g o hgg hh=>by
  obtain ⟨cc,hcc⟩:=za4 hr hgg;rw [← hh,hcc];exact kp g cc e hcc h1 h2
 have own:(w2.setCell ⟨N,1,none⟩ v').ownsRow N 75 1 v' (b+1) (znn (upd fb b W) (b+1)):=by
  rw [zjo];refine zaq ho fun g o hgg hh=>?_;obtain ⟨cc,hcc⟩:=za4 ho hgg;rw [Below.heap_setCell _ _ _ _ (fun z=>by rw [z,hmb,h.pl] at hcc;simp at hcc)];exact hh
 have inj:∀ i j,i < b+1→j < b+1→upd fb b W i=upd fb b W j→i=j:=fun i j hi hj q=>by
  by_cases x:i=b
  ·by_cases y:j=b
   ·omega
   ·rw [x,upd_same,upd_ne _ _ y] at q;exact absurd q.symm (hf j (by omega))
  ·by_cases y:j=b
   ·rw [y,upd_same,upd_ne _ _ x] at q;exact absurd q (hf i (by omega))
   ·rw [upd_ne _ _ x,upd_ne _ _ y] at q;exact h.fi i j (by omega) (by omega) q
 refine ⟨hmb,zaz (hmb.trans h.pl) 1 v',row h.rw_ (by decide) (by decide),own,row h.rb_ (by decide) (by decide),fun i hi=>?_,fun i hi=>?_,fun i hi=>?_,h.wi,inj,h.bi,h.ki,(zew h.rf_ h.low (by have:=h.lt;omega) hg).setCell (yax _) _,by have:=h.lt;have:=hg.size;simp [World.setCell];omega⟩
 ·exact ⟨(h.wo i hi).1,kp _ _ _ (h.wo i hi).2 (by decide) (by decide)⟩
 ·by_cases x:i=b
  ·subst x;rw [upd_same];exact ⟨hN,kp _ _ _ hW (by decide) (by decide)⟩
  ·rw [upd_ne _ _ x];exact ⟨(h.fl i (by omega)).1,kp _ _ _ (h.fl i (by omega)).2 (by decide) (by decide)⟩
 ·obtain ⟨a1,a2,a3,a4⟩:=h.bo i hi;exact ⟨a1,kp _ _ _ a2 (by decide) (by decide),a3,kp _ _ _ a4 (by decide) (by decide)⟩
theorem MkM.box (h:MkM w0 N l a b c wb fb bb kb vw vf vb w1) {W kk:Nat} (hW:w1.heap[W]?=some (.cells #[.pointer (some ⟨kk,0,none⟩)] 113 (0,0))) (hK:w1.heap[kk]?=some (.cells #[.int .i64 (l.getD c 0),.int .i64 0] 184 (0,0))) (hNK:N≤kk) (hfk:∀ i,i < c→kb i≠kk) (hN:N≤W) (hf:∀ i,i < c→bb i≠W) (hA:zdp w1 N 77 vb c 1 (znn bb c++[gpv W]) v' w2) :
  w2.heap[N]?=w1.heap[N]?∧MkM w0 N l a b (c+1) wb fb (upd bb c W) (upd kb c kk) vw vf v' (w2.setCell ⟨N,2,none⟩ v'):=by
 obtain ⟨ho,hg,_⟩:=hA;obtain ⟨kp,hmb⟩:=zoh (w2:=w2) (k:=2) (v':=v') ⟨_,h.pl⟩ h.rb_ hg (by decide);have row:∀ {e n:Nat} {v:Value} {xs:List Value},w1.ownsRow N e 1 v n xs→e≠77→e≠256→(w2.setCell ⟨N,2,none⟩ v').ownsRow N e 1 v n xs:=fun {e n v xs} hr h1 h2=>zaq hr fun g o hgg hh=>by
  obtain ⟨cc,hcc⟩:=za4 hr hgg;rw [← hh,hcc];exact kp g cc e hcc h1 h2
 have own:(w2.setCell ⟨N,2,none⟩ v').ownsRow N 77 1 v' (c+1) (znn (upd bb c W) (c+1)):=by
  rw [zjo];refine zaq ho fun g o hgg hh=>?_;obtain ⟨cc,hcc⟩:=za4 ho hgg;rw [Below.heap_setCell _ _ _ _ (fun z=>by rw [z,hmb,h.pl] at hcc;simp at hcc)];exact hh
 have inj:∀ i j,i < c+1→j < c+1→upd bb c W i=upd bb c W j→i=j:=fun i j hi hj q=>by
  by_cases x:i=c
  ·by_cases y:j=c
   ·omega
   ·rw [x,upd_same,upd_ne _ _ y] at q;exact absurd q.symm (hf j (by omega))
  ·by_cases y:j=c
   ·rw [y,upd_same,upd_ne _ _ x] at q;exact absurd q (hf i (by omega))
   ·rw [upd_ne _ _ x,upd_ne _ _ y] at q;exact h.bi i j (by omega) (by omega) q
 refine ⟨hmb,zaz (hmb.trans h.pl) 2 v',row h.rw_ (by decide) (by decide),row h.rf_ (by decide) (by decide),own,fun i hi=>?_,fun i hi=>?_,fun i hi=>?_,h.wi,h.fi,inj,fun i j hi hj q=>?_,(zew h.rb_ h.low (by have:=h.lt;omega) hg).setCell (yax _) _,by have:=h.lt;have:=hg.size;simp [World.setCell];omega⟩
 ·exact ⟨(h.wo i hi).1,kp _ _ _ (h.wo i hi).2 (by decide) (by decide)⟩
 ·exact ⟨(h.fl i hi).1,kp _ _ _ (h.fl i hi).2 (by decide) (by decide)⟩
 ·by_cases x:i=c
  ·subst x;rw [upd_same,upd_same];exact ⟨hN,kp _ _ _ hW (by decide) (by decide),hNK,kp _ _ _ hK (by decide) (by decide)⟩
  ·rw [upd_ne _ _ x,upd_ne _ _ x];obtain ⟨a1,a2,a3,a4⟩:=h.bo i (by omega);exact ⟨a1,kp _ _ _ a2 (by decide) (by decide),a3,kp _ _ _ a4 (by decide) (by decide)⟩
 ·by_cases x:i=c
  ·by_cases y:j=c
   ·omega
   ·rw [x,upd_same,upd_ne _ _ y] at q;exact absurd q.symm (hfk j (by omega))
  ·by_cases y:j=c
   ·rw [y,upd_same,upd_ne _ _ x] at q;exact absurd q (hfk i (by omega))
   ·rw [upd_ne _ _ x,upd_ne _ _ y] at q;exact h.ki i j (by omega) (by omega) q
end
end Go.Proofs.Ytofacoojpgkbiaa
