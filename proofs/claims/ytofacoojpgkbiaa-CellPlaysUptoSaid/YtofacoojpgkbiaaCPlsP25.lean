/-
  A part of a proof. No condition of its own.
-/
import Derived.Test.YtofacoojpgkbiaaCPlsP24
set_option linter.unusedVariables false
set_option maxHeartbeats 8000000
set_option linter.unusedSimpArgs false
namespace Go.Proofs.Ytofacoojpgkbiaa.Cl
open Go.Conc Go.RowKit
open Go.ConcN (upd upd_ne upd_same)
set_option maxRecDepth 100000
section
variable {K:MK} {va:Nat→Value} {S:GMc} {w:World} {i:Nat}
theorem flag9 (h:MMem K va S w) {c:Nat} (hc:c < K.k) (ob oc:Int) :
  Calls Try.prog 185 #[.pointer (some ⟨K.mb,0,none⟩),opV ⟨9,c,ob,oc⟩] w (zwa K va S ⟨S.F c,0,[]⟩ w):=by
 unfold opV;simp only;obtain ⟨hca,cb',ct⟩:=h.cs (by omega);have hc':(c:Int) < (K.k:Int):=by omega
 have hc0:(0:Int)≤(c:Int):=by omega
 obtain ⟨N,hN⟩:∃ N,w.heap.size=N:=⟨_,rfl⟩;have h1:=(h.alloc (.cells #[.int .i64 9,.int .i64 c,.int .i64 ob,.int .i64 oc] 45)).alloc (.cells #[.bool false,.int .i64 0,.slice none 0 0] 42);have B1:Below N w ((w.alloc (.cells #[.int .i64 9,.int .i64 c,.int .i64 ob,.int .i64 oc] 45)).alloc (.cells #[.bool false,.int .i64 0,.slice none 0 0] 42)):=((Below.refl N w).alloc (by omega) _).alloc (by simp;omega) _;have k1:KeepM w ((w.alloc (.cells #[.int .i64 9,.int .i64 c,.int .i64 ob,.int .i64 oc] 45)).alloc (.cells #[.bool false,.int .i64 0,.slice none 0 0] 42)):=(KeepM.refl.alloc _).alloc _;have s1:((w.alloc (.cells #[.int .i64 9,.int .i64 c,.int .i64 ob,.int .i64 oc] 45)).alloc (.cells #[.bool false,.int .i64 0,.slice none 0 0] 42)).heap.size=N+2:=by simp;omega
 have eN:((w.alloc (.cells #[.int .i64 9,.int .i64 c,.int .i64 ob,.int .i64 oc] 45)).alloc (.cells #[.bool false,.int .i64 0,.slice none 0 0] 42)).heap[N]?=some (.cells #[.int .i64 9,.int .i64 c,.int .i64 ob,.int .i64 oc] 45 (0,0)):=by
  rw [Below.heap_alloc _ _ _ (by simp;omega),← hN];exact heap_alloc_new _ _
 have eM:((w.alloc (.cells #[.int .i64 9,.int .i64 c,.int .i64 ob,.int .i64 oc] 45)).alloc (.cells #[.bool false,.int .i64 0,.slice none 0 0] 42)).heap[N+1]?=some (.cells #[.bool false,.int .i64 0,.slice none 0 0] 42 (0,0)):=by
  have:=heap_alloc_new (w.alloc (.cells #[.int .i64 9,.int .i64 c,.int .i64 ob,.int .i64 oc] 45)) (.cells #[.bool false,.int .i64 0,.slice none 0 0] 42);rw [show (w.alloc (.cells #[.int .i64 9,.int .i64 c,.int .i64 ob,.int .i64 oc] 45)).heap.size=N+1 by simp;omega] at this;exact this
 replace h:=yay h;replace ct:=yay ct;go_enter Try.func185,Try.ntmps185
 go_upto_region 1 with fail
 try rw [hN]
 generalize ((w.alloc (.cells #[.int .i64 9,.int .i64 c,.int .i64 ob,.int .i64 oc] 45)).alloc (.cells #[.bool false,.int .i64 0,.slice none 0 0] 42))=w1 at *;have m0:=h1.cellM 0;have b0:=zab eN 0;have b1:=zab eN 1;have x1:=h1.cellC hc (k:=1) (by decide);simp only [ccV,yac,yaa,yab,hca,Nat.add_zero] at m0 b0 b1 x1;replace B1:=yay B1;replace h1:=yay h1;replace k1:=yay k1;replace eN:=yay eN;replace eM:=yay eM
 go_cut [5] (fun v wx=>v = .bool (S.F c)∧wx=w1.drew)
 case first =>
  go_region
  all_goals (go_wp2_with fail;go_meet)
  all_goals exact ⟨rfl,rfl⟩
 case rest =>
 obtain ⟨rfl,rfl⟩:=hcut;clear m0 b0 b1 x1;have h2:=h1.out.drew;have B2:Below N w w1.drew:=B1.out.drew;have k2:KeepM w w1.drew:=k1.out;have e3:w1.drew.heap[N]?=some (.cells #[.int .i64 9,.int .i64 c,.int .i64 ob,.int .i64 oc] 45 (0,0)):=eN.out;have e4:w1.drew.heap[N+1]?=some (.cells #[.bool false,.int .i64 0,.slice none 0 0] 42 (0,0)):=eM.out;clear h1 B1 k1 eN eM s1;generalize w1.drew=w2 at *;have y0:=zab e3 0;have v0:=zai e4 0;have v1:=zai e4 1;have v2:=zai e4 2;simp only [yac,yaa,yab] at y0;have r4:=e4;obtain ⟨w5,hw5⟩:∃ w5,w5=w2:=⟨_,rfl⟩;have B3:Hid (MMem K va S w5):=yay (hw5▸h2);have k3:Hid (KeepM w2 w5):=yay (hw5▸KeepM.refl);subst hw5;replace h2:=yay h2;replace B2:=yay B2;replace k2:=yay k2;replace e3:=yay e3;replace e4:=yay e4;have q0:=zab r4 0;have q1:=zab r4 1;have q2:=zab r4 2;simp only [yac,yaa,yab] at q0 q1 q2;have u0:=zai r4 0;have u1:=zai r4 1;have u2:=zai r4 2;have hsA:=zag (zag (zag r4 0 (.bool (S.F c))) 1 (.int .i64 0)) 2 (.slice none 0 0);have hsB:Below N w5 (((w5.setCell ⟨N+1,0,none⟩ (.bool (S.F c))).setCell ⟨N+1,1,none⟩ (.int .i64 0)).setCell ⟨N+1,2,none⟩ (.slice none 0 0)):=(((Below.refl N w5).setCell (Nat.le_succ _) _).setCell (Nat.le_succ _) _).setCell (Nat.le_succ _) _;simp only [yan,yau,yav,yak,yam,yal] at hsA;replace r4:=yay r4;replace hsA:=yay hsA;replace hsB:=yay hsB
 go_wp2_with fail
 refine bodyPost_ret (results_cell_row (fn:=Try.f185) (p:=4) (ty:=42) rfl _ _ (N+1) 42 _ (0,0) _ rfl hsA.out Try.underlying42 rfl zgp) rfl ?_;refine ⟨rfl,?_,fun b cc tt hb d1 d2 d3 d4=>?_⟩
 ·exact zcy B3.out (h.out.below B2.out hN).1 hsB.out h.out hN
 ·have e:=k3.out b cc tt (k2.out b cc tt hb d1 d2 d3 d4) d1 d2 d3 d4;have hlt:b < N:=by rw [← hN];exact (yah.1 hb).1
  exact (hsB.out.block b hlt).trans e
theorem flag10 (h:MMem K va S w) {c:Nat} (hc:c < K.k) (ob oc:Int) :
  Calls Try.prog 185 #[.pointer (some ⟨K.mb,0,none⟩),opV ⟨10,c,ob,oc⟩] w (zwa K va (S.setF c true) ⟨!S.F c,0,[]⟩ w):=by
 unfold opV;simp only;obtain ⟨hca,cb',ct⟩:=h.cs (by omega);have hc':(c:Int) < (K.k:Int):=by omega
 have hc0:(0:Int)≤(c:Int):=by omega
 obtain ⟨N,hN⟩:∃ N,w.heap.size=N:=⟨_,rfl⟩;have h1:=(h.alloc (.cells #[.int .i64 10,.int .i64 c,.int .i64 ob,.int .i64 oc] 45)).alloc (.cells #[.bool false,.int .i64 0,.slice none 0 0] 42);have B1:Below N w ((w.alloc (.cells #[.int .i64 10,.int .i64 c,.int .i64 ob,.int .i64 oc] 45)).alloc (.cells #[.bool false,.int .i64 0,.slice none 0 0] 42)):=((Below.refl N w).alloc (by omega) _).alloc (by simp;omega) _;have k1:KeepM w ((w.alloc (.cells #[.int .i64 10,.int .i64 c,.int .i64 ob,.int .i64 oc] 45)).alloc (.cells #[.bool false,.int .i64 0,.slice none 0 0] 42)):=(KeepM.refl.alloc _).alloc _;have s1:((w.alloc (.cells #[.int .i64 10,.int .i64 c,.int .i64 ob,.int .i64 oc] 45)).alloc (.cells #[.bool false,.int .i64 0,.slice none 0 0] 42)).heap.size=N+2:=by simp;omega
 have eN:((w.alloc (.cells #[.int .i64 10,.int .i64 c,.int .i64 ob,.int .i64 oc] 45)).alloc (.cells #[.bool false,.int .i64 0,.slice none 0 0] 42)).heap[N]?=some (.cells #[.int .i64 10,.int .i64 c,.int .i64 ob,.int .i64 oc] 45 (0,0)):=by
  rw [Below.heap_alloc _ _ _ (by simp;omega),← hN];exact heap_alloc_new _ _
 have eM:((w.alloc (.cells #[.int .i64 10,.int .i64 c,.int .i64 ob,.int .i64 oc] 45)).alloc (.cells #[.bool false,.int .i64 0,.slice none 0 0] 42)).heap[N+1]?=some (.cells #[.bool false,.int .i64 0,.slice none 0 0] 42 (0,0)):=by
  have:=heap_alloc_new (w.alloc (.cells #[.int .i64 10,.int .i64 c,.int .i64 ob,.int .i64 oc] 45)) (.cells #[.bool false,.int .i64 0,.slice none 0 0] 42);rw [show (w.alloc (.cells #[.int .i64 10,.int .i64 c,.int .i64 ob,.int .i64 oc] 45)).heap.size=N+1 by simp;omega] at this;exact this
 replace h:=yay h;replace ct:=yay ct;go_enter Try.func185,Try.ntmps185
 go_upto_region 1 with fail
 try rw [hN]
 generalize ((w.alloc (.cells #[.int .i64 10,.int .i64 c,.int .i64 ob,.int .i64 oc] 45)).alloc (.cells #[.bool false,.int .i64 0,.slice none 0 0] 42))=w1 at *;have m0:=h1.cellM 0;have b0:=zab eN 0;have b1:=zab eN 1;have x1:=h1.cellC hc (k:=1) (by decide);simp only [ccV,yac,yaa,yab,hca,Nat.add_zero] at m0 b0 b1 x1;replace B1:=yay B1;replace h1:=yay h1;replace k1:=yay k1;replace eN:=yay eN;replace eM:=yay eM
 go_cut [5] (fun v wx=>v = .bool (S.F c)∧wx=w1.drew)
 case first =>
  go_region
  all_goals (go_wp2_with fail;go_meet)
  all_goals exact ⟨rfl,rfl⟩
 case rest =>
 obtain ⟨rfl,rfl⟩:=hcut;clear m0 b0 b1 x1;have h2:=h1.out.drew;have B2:Below N w w1.drew:=B1.out.drew;have k2:KeepM w w1.drew:=k1.out;have e3:w1.drew.heap[N]?=some (.cells #[.int .i64 10,.int .i64 c,.int .i64 ob,.int .i64 oc] 45 (0,0)):=eN.out;have e4:w1.drew.heap[N+1]?=some (.cells #[.bool false,.int .i64 0,.slice none 0 0] 42 (0,0)):=eM.out;clear h1 B1 k1 eN eM s1;generalize w1.drew=w2 at *;have y0:=zab e3 0;have v0:=zai e4 0;have v1:=zai e4 1;have v2:=zai e4 2;have m0:=h2.cellM 0;have b1:=zab e3 1;have x1:=h2.cellC hc (k:=1) (by decide);obtain ⟨_,_,ct2⟩:=h2.cs (by omega);have z1:=ct2.free (c * 4+1);obtain ⟨h5,k5⟩:=h2.setF hc true;have n3:N≠K.cb:=fun z=>by
  obtain ⟨cc,e⟩:=h2.cbt (by omega);rw [← z,e3] at e;simp at e
 have n4:N+1≠K.cb:=fun z=>by
  obtain ⟨cc,e⟩:=h2.cbt (by omega);rw [← z,e4] at e;simp at e
 simp only [ccV,yac,yaa,yab,hca,Nat.add_zero] at m0 b1 x1 y0;replace h2:=yay h2;replace ct2:=yay ct2;replace h5:=yay h5;replace k5:=yay k5;replace B2:=yay B2;replace k2:=yay k2;replace e3:=yay e3;replace e4:=yay e4;go_upto_region 4 with fail
 go_cut [26] (fun v wx=>wx=(w2.setCell ⟨K.cb,c * 4+1,none⟩ (.bool true)).drew)
 case first =>
  skip
  go_region
  all_goals (go_wp2_with fail;go_meet)
  all_goals rfl
 case rest =>
 subst hcut;have r4:(w2.setCell ⟨K.cb,c * 4+1,none⟩ (.bool true)).drew.heap[N+1]?=_:=(Below.heap_setCell w2 ⟨K.cb,c * 4+1,none⟩ (.bool true) _ n4).trans e4.out;have B3:Hid (MMem K va (S.setF c true) (w2.setCell ⟨K.cb,c * 4+1,none⟩ (.bool true)).drew):=yay h5.out.drew;have k3:Hid (KeepM w2 (w2.setCell ⟨K.cb,c * 4+1,none⟩ (.bool true)).drew):=k5;clear m0 b1 x1 y0 v0 v1 v2 h5 k5 z1;generalize (w2.setCell ⟨K.cb,c * 4+1,none⟩ (.bool true)).drew=w5 at *;have q0:=zab r4 0;have q1:=zab r4 1;have q2:=zab r4 2;simp only [yac,yaa,yab] at q0 q1 q2;have u0:=zai r4 0;have u1:=zai r4 1;have u2:=zai r4 2;have hsA:=zag (zag (zag r4 0 (.bool (!S.F c))) 1 (.int .i64 0)) 2 (.slice none 0 0);have hsB:Below N w5 (((w5.setCell ⟨N+1,0,none⟩ (.bool (!S.F c))).setCell ⟨N+1,1,none⟩ (.int .i64 0)).setCell ⟨N+1,2,none⟩ (.slice none 0 0)):=(((Below.refl N w5).setCell (Nat.le_succ _) _).setCell (Nat.le_succ _) _).setCell (Nat.le_succ _) _;simp only [yan,yau,yav,yak,yam,yal] at hsA;replace r4:=yay r4;replace hsA:=yay hsA;replace hsB:=yay hsB
 go_wp2_with fail
 refine bodyPost_ret (results_cell_row (fn:=Try.f185) (p:=4) (ty:=42) rfl _ _ (N+1) 42 _ (0,0) _ rfl hsA.out Try.underlying42 rfl zgp) rfl ?_;refine ⟨rfl,?_,fun b cc tt hb d1 d2 d3 d4=>?_⟩
 ·exact zcy B3.out (h.out.below B2.out hN).1 hsB.out h.out hN
 ·have e:=k3.out b cc tt (k2.out b cc tt hb d1 d2 d3 d4) d1 d2 d3 d4;have hlt:b < N:=by rw [← hN];exact (yah.1 hb).1
  exact (hsB.out.block b hlt).trans e
theorem flag11 (h:MMem K va S w) {c:Nat} (hc:c < K.k) (ob oc:Int) :
  Calls Try.prog 185 #[.pointer (some ⟨K.mb,0,none⟩),opV ⟨11,c,ob,oc⟩] w (zwa K va (S.setF c false) ⟨S.F c,0,[]⟩ w):=by
 unfold opV;simp only;obtain ⟨hca,cb',ct⟩:=h.cs (by omega);have hc':(c:Int) < (K.k:Int):=by omega
 have hc0:(0:Int)≤(c:Int):=by omega
 obtain ⟨N,hN⟩:∃ N,w.heap.size=N:=⟨_,rfl⟩;have h1:=(h.alloc (.cells #[.int .i64 11,.int .i64 c,.int .i64 ob,.int .i64 oc] 45)).alloc (.cells #[.bool false,.int .i64 0,.slice none 0 0] 42);have B1:Below N w ((w.alloc (.cells #[.int .i64 11,.int .i64 c,.int .i64 ob,.int .i64 oc] 45)).alloc (.cells #[.bool false,.int .i64 0,.slice none 0 0] 42)):=((Below.refl N w).alloc (by omega) _).alloc (by simp;omega) _;have k1:KeepM w ((w.alloc (.cells #[.int .i64 11,.int .i64 c,.int .i64 ob,.int .i64 oc] 45)).alloc (.cells #[.bool false,.int .i64 0,.slice none 0 0] 42)):=(KeepM.refl.alloc _).alloc _;have s1:((w.alloc (.cells #[.int .i64 11,.int .i64 c,.int .i64 ob,.int .i64 oc] 45)).alloc (.cells #[.bool false,.int .i64 0,.slice none 0 0] 42)).heap.size=N+2:=by simp;omega
 have eN:((w.alloc (.cells #[.int .i64 11,.int .i64 c,.int .i64 ob,.int .i64 oc] 45)).alloc (.cells #[.bool false,.int .i64 0,.slice none 0 0] 42)).heap[N]?=some (.cells #[.int .i64 11,.int .i64 c,.int .i64 ob,.int .i64 oc] 45 (0,0)):=by
  rw [Below.heap_alloc _ _ _ (by simp;omega),← hN];exact heap_alloc_new _ _
 have eM:((w.alloc (.cells #[.int .i64 11,.int .i64 c,.int .i64 ob,.int .i64 oc] 45)).alloc (.cells #[.bool false,.int .i64 0,.slice none 0 0] 42)).heap[N+1]?=some (.cells #[.bool false,.int .i64 0,.slice none 0 0] 42 (0,0)):=by
  have:=heap_alloc_new (w.alloc (.cells #[.int .i64 11,.int .i64 c,.int .i64 ob,.int .i64 oc] 45)) (.cells #[.bool false,.int .i64 0,.slice none 0 0] 42);rw [show (w.alloc (.cells #[.int .i64 11,.int .i64 c,.int .i64 ob,.int .i64 oc] 45)).heap.size=N+1 by simp;omega] at this;exact this
 replace h:=yay h;replace ct:=yay ct;go_enter Try.func185,Try.ntmps185
 go_upto_region 1 with fail
 try rw [hN]
 generalize ((w.alloc (.cells #[.int .i64 11,.int .i64 c,.int .i64 ob,.int .i64 oc] 45)).alloc (.cells #[.bool false,.int .i64 0,.slice none 0 0] 42))=w1 at *;have m0:=h1.cellM 0;have b0:=zab eN 0;have b1:=zab eN 1;have x1:=h1.cellC hc (k:=1) (by decide);simp only [ccV,yac,yaa,yab,hca,Nat.add_zero] at m0 b0 b1 x1;replace B1:=yay B1;replace h1:=yay h1;replace k1:=yay k1;replace eN:=yay eN;replace eM:=yay eM
 go_cut [5] (fun v wx=>v = .bool (S.F c)∧wx=w1.drew)
 case first =>
  go_region
  all_goals (go_wp2_with fail;go_meet)
  all_goals exact ⟨rfl,rfl⟩
 case rest =>
 obtain ⟨rfl,rfl⟩:=hcut;clear m0 b0 b1 x1;have h2:=h1.out.drew;have B2:Below N w w1.drew:=B1.out.drew;have k2:KeepM w w1.drew:=k1.out;have e3:w1.drew.heap[N]?=some (.cells #[.int .i64 11,.int .i64 c,.int .i64 ob,.int .i64 oc] 45 (0,0)):=eN.out;have e4:w1.drew.heap[N+1]?=some (.cells #[.bool false,.int .i64 0,.slice none 0 0] 42 (0,0)):=eM.out;clear h1 B1 k1 eN eM s1;generalize w1.drew=w2 at *;have y0:=zab e3 0;have v0:=zai e4 0;have v1:=zai e4 1;have v2:=zai e4 2;have m0:=h2.cellM 0;have b1:=zab e3 1;have x1:=h2.cellC hc (k:=1) (by decide);obtain ⟨_,_,ct2⟩:=h2.cs (by omega);have z1:=ct2.free (c * 4+1);obtain ⟨h5,k5⟩:=h2.setF hc false;have n3:N≠K.cb:=fun z=>by
  obtain ⟨cc,e⟩:=h2.cbt (by omega);rw [← z,e3] at e;simp at e
 have n4:N+1≠K.cb:=fun z=>by
  obtain ⟨cc,e⟩:=h2.cbt (by omega);rw [← z,e4] at e;simp at e
 simp only [ccV,yac,yaa,yab,hca,Nat.add_zero] at m0 b1 x1 y0;replace h2:=yay h2;replace ct2:=yay ct2;replace h5:=yay h5;replace k5:=yay k5;replace B2:=yay B2;replace k2:=yay k2;replace e3:=yay e3;replace e4:=yay e4
 go_upto_block 0 with fail
 go_cut [39] (fun v wx=>wx=(w2.setCell ⟨K.cb,c * 4+1,none⟩ (.bool false)).drew)
 case first =>
  go_wp2_with fail
  go_region
  all_goals (go_wp2_with fail;go_meet)
  all_goals rfl
 case rest =>
 subst hcut;have r4:(w2.setCell ⟨K.cb,c * 4+1,none⟩ (.bool false)).drew.heap[N+1]?=_:=(Below.heap_setCell w2 ⟨K.cb,c * 4+1,none⟩ (.bool false) _ n4).trans e4.out;have B3:Hid (MMem K va (S.setF c false) (w2.setCell ⟨K.cb,c * 4+1,none⟩ (.bool false)).drew):=yay h5.out.drew;have k3:Hid (KeepM w2 (w2.setCell ⟨K.cb,c * 4+1,none⟩ (.bool false)).drew):=k5;clear m0 b1 x1 y0 v0 v1 v2 h5 k5 z1;generalize (w2.setCell ⟨K.cb,c * 4+1,none⟩ (.bool false)).drew=w5 at *;have q0:=zab r4 0;have q1:=zab r4 1;have q2:=zab r4 2;simp only [yac,yaa,yab] at q0 q1 q2;have u0:=zai r4 0;have u1:=zai r4 1;have u2:=zai r4 2;have hsA:=zag (zag (zag r4 0 (.bool (S.F c))) 1 (.int .i64 0)) 2 (.slice none 0 0);have hsB:Below N w5 (((w5.setCell ⟨N+1,0,none⟩ (.bool (S.F c))).setCell ⟨N+1,1,none⟩ (.int .i64 0)).setCell ⟨N+1,2,none⟩ (.slice none 0 0)):=(((Below.refl N w5).setCell (Nat.le_succ _) _).setCell (Nat.le_succ _) _).setCell (Nat.le_succ _) _;simp only [yan,yau,yav,yak,yam,yal] at hsA;replace r4:=yay r4;replace hsA:=yay hsA;replace hsB:=yay hsB
 go_wp2_with fail
 refine bodyPost_ret (results_cell_row (fn:=Try.f185) (p:=4) (ty:=42) rfl _ _ (N+1) 42 _ (0,0) _ rfl hsA.out Try.underlying42 rfl zgp) rfl ?_;refine ⟨rfl,?_,fun b cc tt hb d1 d2 d3 d4=>?_⟩
 ·exact zcy B3.out (h.out.below B2.out hN).1 hsB.out h.out hN
 ·have e:=k3.out b cc tt (k2.out b cc tt hb d1 d2 d3 d4) d1 d2 d3 d4;have hlt:b < N:=by rw [← hN];exact (yah.1 hb).1
  exact (hsB.out.block b hlt).trans e
theorem zry (h:MMem K va S w) {o:OpD} (ha:0≤o.a∧o.a < K.k) (hk:1≤o.kind∧o.kind≤5) :
  Calls Try.prog 183 #[.pointer (some ⟨K.mb,0,none⟩),opV o] w (zwa K va (zc3 S o).1 (zc3 S o).2 w):=by
 obtain ⟨k,a,b,c⟩:=o;simp only at ha hk;obtain ⟨m,rfl⟩:∃ m:Nat,a=m:=⟨a.toNat,by omega⟩;have hm:m < K.k:=by omega
 rcases (show k=1∨k=2∨k=3∨k=4∨k=5 by omega) with rfl|rfl|rfl|rfl|rfl
 ·have:=word1 h hm b c;rw [zod] at this;exact this
 ·exact word2 h hm b c
 ·exact word3 h hm b c
 ·exact word4 h hm b c
 ·by_cases q:S.W m=b
  ·have:=word5 h hm b c q;have e:zc3 S ⟨5,m,b,c⟩=(S.setW m c,⟨true,0,[]⟩):=by simp [zc3,q]
   rw [e];exact this
  ·have:=word6 h hm b c q;rw [zod] at this;have e:zc3 S ⟨5,m,b,c⟩=(S,⟨false,0,[]⟩):=by simp [zc3,q]
   rw [e];exact this
theorem zsw (h:MMem K va S w) {o:OpD} (ha:0≤o.a∧o.a < K.k) (hk:9≤o.kind∧o.kind≤11) :
  Calls Try.prog 185 #[.pointer (some ⟨K.mb,0,none⟩),opV o] w (zwa K va (zdz S o).1 (zdz S o).2 w):=by
 obtain ⟨k,a,b,c⟩:=o;simp only at ha hk;obtain ⟨m,rfl⟩:∃ m:Nat,a=m:=⟨a.toNat,by omega⟩;have hm:m < K.k:=by omega
 rcases (show k=9∨k=10∨k=11 by omega) with rfl|rfl|rfl
 ·exact flag9 h hm b c
 ·exact flag10 h hm b c
 ·exact flag11 h hm b c
end
section
variable {K:MK} {va:Nat→Value} {S:GMc} {w:World} {i:Nat}
theorem MMem.opAt (h:MMem K va S w) (hi:i < K.n) {t:GT} (ht:S.T i=t) (hat:t.at_ < t.ops.length):∃ b o cap,K.vo i = .slice (some ⟨b,o,none⟩) t.ops.length cap∧(opG t).Ok ∧
  w.cell? ⟨b,o+t.at_ * 4,none⟩=some (.int .i64 (opG t).kind)∧w.cell? ⟨b,o+t.at_ * 4+1,none⟩=some (.int .i64 (opG t).a)∧w.cell? ⟨b,o+t.at_ * 4+2,none⟩=some (.int .i64 (opG t).b)∧w.cell? ⟨b,o+t.at_ * 4+3,none⟩=some (.int .i64 (opG t).c):=by
 subst ht;obtain ⟨ao,cap,e,h0,h1,h2,h3⟩:=h.ops i hi;obtain ⟨b,o,rfl,q⟩:=h3 (by intro z;rw [z] at hat;simp at hat);have hx:(S.T i).ops[(S.T i).at_]?=some (opG (S.T i)):=by unfold opG;rw [List.getD_eq_getElem?_getD,List.getElem?_eq_getElem hat];rfl
 obtain ⟨o0,o1,o2,o3⟩:=q _ _ hx;have kp:∀ {a:Addr} {v:Value},K.w0.cell? a=some v→w.cell? a=some v:=fun {a v} hv=>(World.cell?_of_block (w:=K.w0) (h.low.block _ (by rw [← h.bs];exact World.block_lt_of_cell? K.w0 _ hv))).trans hv;exact ⟨b,o,cap,e,h0 _ (List.mem_of_getElem? hx),kp o0,kp o1,kp o2,kp o3⟩
theorem zes (h:MMem K va S w) {N:Nat} (hN:w.heap.size≤N):N≠K.tb∧N≠K.mb∧(0 < K.k→N≠K.cb):=by
 obtain ⟨cc,q⟩:=h.tbt;have h1:=(yah.1 q).1;have h2:=(yah.1 h.mach).1;refine ⟨by omega,by omega,fun hk=>?_⟩;obtain ⟨c2,q2⟩:=h.cbt hk;have h3:=(yah.1 q2).1;omega
theorem ziq (h:MMem K va S w) {c:Nat} (hc:c < K.k) (v:Int) (hn:0≤S.N∧S.N≤4611686018427387904) :
  Calls Try.prog 186 #[.pointer (some ⟨K.mb,0,none⟩),.int .i64 c,.int .i64 v] w fun e w'=>e = .returned (.tuple #[])∧MMem K va (S.lay c v) w'∧KeepM w w'∧∀ b,b≠K.mb→b≠K.cb→w'.heap[b]?=w.heap[b]?:=by
 have hE:Hid (∀ b,b≠K.mb→b≠K.cb→(((w.setCell ⟨K.mb,2,none⟩ (.int .i64 (S.N+1))).setCell ⟨K.cb,c * 4+2,none⟩ (.int .i64 v)).setCell ⟨K.cb,c * 4+3,none⟩ (.int .i64 (S.N+1))).heap[b]?=w.heap[b]?):=yay fun b h1 h2=>by
  rw [Below.heap_setCell _ _ _ _ h2,Below.heap_setCell _ _ _ _ h2,Below.heap_setCell _ _ _ _ h1]
 obtain ⟨ca,cb',ct⟩:=h.cs (by omega);have hca:=ca;have hc':(c:Int) < (K.k:Int):=by omega
 have hw:IntKind.i64.wrap (S.N+1)=S.N+1:=by rw [IntKind.wrap_i64];omega
 have m0:=h.cellM 0;have m2:=h.cellM 2;have zm:=zai h.mach 2;obtain ⟨h1,k1⟩:=h.setN (S.N+1);simp only [yac,yaa,yab,hca] at m0 m2;replace h:=yay h;replace ct:=yay ct;clear ca;go_enter Try.func186,Try.ntmps186
 go_upto_region 1 with fail
 generalize w.setCell ⟨K.mb,2,none⟩ (.int .i64 (S.N+1))=w1 at *;clear m0 m2 zm;have m0:=h1.cellM 0;have c2:=h1.cellC hc (k:=2) (by decide);have z2:=(h1.cs (by omega)).2.2.free (c * 4+2);simp only [ccV,yac,yaa,yab,hca] at m0 c2;obtain ⟨h2,k2⟩:=h1.setB hc v;replace h1:=yay h1;go_upto_region 2 with fail
 generalize w1.setCell ⟨K.cb,c * 4+2,none⟩ (.int .i64 v)=w2 at *;clear m0 c2 z2;have h2d:=h2.drew;have m0:=h2.cellM 0;have m2:=h2.cellM 2;have c3:=h2.cellC hc (k:=3) (by decide);have z3:=(h2.cs (by omega)).2.2.free (c * 4+3);simp only [ccV,yac,yaa,yab,hca] at m0 m2 c3;obtain ⟨h3,k3⟩:=h2d.setSer hc (S.N+1);replace h2:=yay h2;replace h2d:=yay h2d;replace k1:=yay k1;replace k2:=yay k2;replace k3:=yay k3;replace h3:=yay h3;go_region
 all_goals go_wp2_with fail
 all_goals go_end0
 all_goals exact ⟨rfl,h3.out,k1.out.trans (k2.out.trans k3.out),fun b h1 h2=>hE.out b h1 h2⟩
end
section
variable {K:MK} {va:Nat→Value} {S:GMc} {w:World} {i:Nat}
theorem ztu (h:MMem K va S w) (hi:i < K.n) (hlen:(S.T i).ans.length≤100000) (ha9:(S.T i).at_≤100000) (hat:(S.T i).at_ < (S.T i).ops.length) {ok oa ob oc:Int} (ho:opG (S.T i)=⟨ok,oa,ob,oc⟩) {c:Nat} (hc:c < K.k) (hoa:oa=(c:Int)) (hk:1≤ok∧ok≤5) :
  Calls Try.prog 149 #[.pointer (some ⟨K.mb,0,none⟩),.int .i64 i] w (MDone K (zgl (zc3 S ⟨ok,c,ob,oc⟩).1 i (zc3 S ⟨ok,c,ob,oc⟩).2) w):=by
 have hi':(i:Int) < (K.n:Int):=by omega
 have hat':((S.T i).at_:Int) < ((S.T i).ops.length:Int):=by omega
 have hc':(c:Int) < (K.k:Int):=by omega
 subst hoa;obtain ⟨hca,cb',ct⟩:=h.cs (by omega);obtain ⟨xb,xo,xc,hvo,hok,o0,o1,o2,o3⟩:=h.opAt hi rfl hat;have hk5:decide (ok≤5)=true:=by simp;omega
 rw [ho] at o0 o1 o2 o3;simp only at o0 o1 o2 o3;have m1:=h.cellM 1;have t0:=h.cellT hi (k:=0) (by decide);have t3:=h.cellT hi (k:=3) (by decide);simp only [tcV,yac,yaa,yab,hvo,Nat.add_zero] at m1 t0 t3;have am1:=zam (.cells #[.int .i64 0,.int .i64 0,.int .i64 0,.int .i64 0] 45) m1;have at0:=zam (.cells #[.int .i64 0,.int .i64 0,.int .i64 0,.int .i64 0] 45) t0;have at3:=zam (.cells #[.int .i64 0,.int .i64 0,.int .i64 0,.int .i64 0] 45) t3;have a0:=zam (.cells #[.int .i64 0,.int .i64 0,.int .i64 0,.int .i64 0] 45) o0;have a1:=zam (.cells #[.int .i64 0,.int .i64 0,.int .i64 0,.int .i64 0] 45) o1;have a2:=zam (.cells #[.int .i64 0,.int .i64 0,.int .i64 0,.int .i64 0] 45) o2;have a3:=zam (.cells #[.int .i64 0,.int .i64 0,.int .i64 0,.int .i64 0] 45) o3;have h1:=(h.alloc (.cells #[.int .i64 ok,.int .i64 (c:Int),.int .i64 ob,.int .i64 oc] 45)).drew;have k1:KeepM w (w.alloc (.cells #[.int .i64 ok,.int .i64 (c:Int),.int .i64 ob,.int .i64 oc] 45)).drew:=KeepM.alloc KeepM.refl _;have e1:(w.alloc (.cells #[.int .i64 ok,.int .i64 (c:Int),.int .i64 ob,.int .i64 oc] 45)).drew.heap[w.heap.size]?=_:=heap_alloc_new w (.cells #[.int .i64 ok,.int .i64 (c:Int),.int .i64 ob,.int .i64 oc] 45);have s1:(w.alloc (.cells #[.int .i64 ok,.int .i64 (c:Int),.int .i64 ob,.int .i64 oc] 45)).drew.heap.size=w.heap.size+1:=by
  show (w.alloc _).heap.size=_;simp
 generalize hM:w.heap.size=N at *;replace hM:=yay hM;replace h:=yay h;replace ct:=yay ct;replace hok:=yay hok;replace hat:=yay hat;replace hvo:=yay hvo;replace hlen:=yay hlen;replace ha9:=yay ha9;replace ho:=yay ho;replace h1:=yay h1;replace k1:=yay k1;replace e1:=yay e1;replace s1:=yay s1;go_enter Try.func149,Try.ntmps149
 go_upto_region 0 with fail
 go_cut [4] (fun v wx=>v = .pointer (some ⟨N,0,none⟩)∧wx=(w.alloc (.cells #[.int .i64 ok,.int .i64 (c:Int),.int .i64 ob,.int .i64 oc] 45)).drew)
 case first =>
  go_region
  all_goals (go_wp2_with fail;go_meet)
  all_goals exact ⟨by rw [hM.out],rfl⟩
 case rest =>
 obtain ⟨rfl,rfl⟩:=hcut;clear m1 t0 t3 am1 at0 at3 a0 a1 a2 a3 o0 o1 o2 o3 hat';generalize (w.alloc (.cells #[.int .i64 ok,.int .i64 (c:Int),.int .i64 ob,.int .i64 oc] 45)).drew=w1 at *;have m0:=h1.out.cellM 0;have b1:=zab e1.out 1;have x0:=h1.out.cellC hc (k:=0) (by decide);have x1:=h1.out.cellC hc (k:=1) (by decide);have x2:=h1.out.cellC hc (k:=2) (by decide);have x3:=h1.out.cellC hc (k:=3) (by decide);simp only [ccV,yac,yaa,yab,hca,Nat.add_zero] at m0 b1 x0 x1 x2 x3;have c0:=zam (.cells #[.int .i64 0,.bool false,.int .i64 0,.int .i64 0] 262) m0;have c1:=zam (.cells #[.int .i64 0,.bool false,.int .i64 0,.int .i64 0] 262) b1;have c2:=zam (.cells #[.int .i64 0,.bool false,.int .i64 0,.int .i64 0] 262) x0;have c3:=zam (.cells #[.int .i64 0,.bool false,.int .i64 0,.int .i64 0] 262) x1;have c4:=zam (.cells #[.int .i64 0,.bool false,.int .i64 0,.int .i64 0] 262) x2;have c5:=zam (.cells #[.int .i64 0,.bool false,.int .i64 0,.int .i64 0] 262) x3;go_upto_region 1 with fail
 go_cut [5] (fun v wx=>v = .pointer (some ⟨N+1,0,none⟩)∧wx=(w1.alloc (.cells #[.int .i64 (S.W c),.bool (S.F c),.int .i64 (S.B c),.int .i64 (S.Ser c)] 262)).drew)
 case first =>
  go_region
  all_goals (go_wp2_with fail;go_meet)
  all_goals (first|exact ⟨rfl,rfl⟩|exact ⟨by rw [s1.out],rfl⟩)
 case rest =>
 obtain ⟨rfl,rfl⟩:=hcut;clear m0 b1 x0 x1 x2 x3 c0 c1 c2 c3 c4 c5;have h2:=(h1.out.alloc (.cells #[.int .i64 (S.W c),.bool (S.F c),.int .i64 (S.B c),.int .i64 (S.Ser c)] 262)).drew;have k2:KeepM w (w1.alloc (.cells #[.int .i64 (S.W c),.bool (S.F c),.int .i64 (S.B c),.int .i64 (S.Ser c)] 262)).drew:=k1.out.alloc _;have f2:(w1.alloc (.cells #[.int .i64 (S.W c),.bool (S.F c),.int .i64 (S.B c),.int .i64 (S.Ser c)] 262)).drew.heap[N+1]?=some (.cells #[.int .i64 (S.W c),.bool (S.F c),.int .i64 (S.B c),.int .i64 (S.Ser c)] 262 (0,0)):=by
  rw [← s1.out];exact heap_alloc_new w1 _
 have e2:(w1.alloc (.cells #[.int .i64 (S.W c),.bool (S.F c),.int .i64 (S.B c),.int .i64 (S.Ser c)] 262)).drew.heap[N]?=some (.cells #[.int .i64 ok,.int .i64 (c:Int),.int .i64 ob,.int .i64 oc] 45 (0,0)):=(Below.heap_alloc w1 _ _ (by rw [s1.out];omega)).trans e1.out;have nA:=zes h.out (N:=N) (by rw [hM.out];omega);have nB:=zes h.out (N:=N+1) (by rw [hM.out];omega);replace nA:=yay nA;replace nB:=yay nB;clear h1 k1 e1 s1;generalize (w1.alloc (.cells #[.int .i64 (S.W c),.bool (S.F c),.int .i64 (S.B c),.int .i64 (S.Ser c)] 262)).drew=w2 at *;replace h2:=yay h2;replace k2:=yay k2;replace e2:=yay e2;replace f2:=yay f2;have o0:=zab e2.out 0;have o1:=zab e2.out 1;have o2:=zab e2.out 2;have o3:=zab e2.out 3;have t4:=h2.out.cellT hi (k:=4) (by decide);have m1:=h2.out.cellM 1;simp only [tcV,ccV,yac,yaa,yab,hca,Nat.add_zero,GMc.setT_T] at o0 o1 o2 o3 t4 m1;have HW:=yay (zry h2.out (o:=⟨ok,c,ob,oc⟩) (by constructor<;>simp only<;>omega) (by simp only;omega));have hT:Hid ((zc3 S ⟨ok,c,ob,oc⟩).1.T=S.T∧(zc3 S ⟨ok,c,ob,oc⟩).2.l=[]):=yay (by unfold zc3;(repeat' split)<;>exact ⟨rfl,rfl⟩)
 go_wp2_with (first
  | (go_at_call 183;refine HW.out.mono ?_;rintro e w' ⟨rfl,hm',hk'⟩;replace hm':=yay hm';replace hk':=yay hk';rw [show zs6 (zc3 S ⟨ok,c,ob,oc⟩).2 (.slice none 0 0) = .agg #[.bool (zc3 S ⟨ok,c,ob,oc⟩).2.ok,.int .i64 (zc3 S ⟨ok,c,ob,oc⟩).2.n,.slice none 0 0] from rfl];have HE:=yay (zcl (r:=(zc3 S ⟨ok,c,ob,oc⟩).2) hm'.out hi (by rw [hT.out.1];exact hlen.out) (by rw [hT.out.1];exact ha9.out) hT.out.2))
  | (go_at_call 182;refine HE.out.mono ?_;rintro e w' ⟨rfl,hdd⟩;replace hdd:=yay hdd))
 go_end0
 exact MDone.of (k2.out.trans hk'.out) ⟨rfl,hdd.out⟩
theorem zt3 (h:MMem K va S w) (hi:i < K.n) (hlen:(S.T i).ans.length≤100000) (ha9:(S.T i).at_≤100000) (hat:(S.T i).at_ < (S.T i).ops.length) {ok oa ob oc:Int} (ho:opG (S.T i)=⟨ok,oa,ob,oc⟩) {c:Nat} (hc:c < K.k) (hoa:oa=(c:Int)) (hk:9≤ok∧ok≤11) :
  Calls Try.prog 149 #[.pointer (some ⟨K.mb,0,none⟩),.int .i64 i] w (MDone K (zgl (zdz S ⟨ok,c,ob,oc⟩).1 i (zdz S ⟨ok,c,ob,oc⟩).2) w):=by
 have hi':(i:Int) < (K.n:Int):=by omega
 have hat':((S.T i).at_:Int) < ((S.T i).ops.length:Int):=by omega
 have hc':(c:Int) < (K.k:Int):=by omega
 subst hoa;obtain ⟨hca,cb',ct⟩:=h.cs (by omega);obtain ⟨xb,xo,xc,hvo,hok,o0,o1,o2,o3⟩:=h.opAt hi rfl hat;have hk5:decide (ok≤5)=false:=by simp;omega
 have hk8:decide (ok≤8)=false:=by simp;omega
 have hk11:decide (ok≤11)=true:=by simp;omega
 rw [ho] at o0 o1 o2 o3;simp only at o0 o1 o2 o3;have m1:=h.cellM 1;have t0:=h.cellT hi (k:=0) (by decide);have t3:=h.cellT hi (k:=3) (by decide);simp only [tcV,yac,yaa,yab,hvo,Nat.add_zero] at m1 t0 t3;have am1:=zam (.cells #[.int .i64 0,.int .i64 0,.int .i64 0,.int .i64 0] 45) m1;have at0:=zam (.cells #[.int .i64 0,.int .i64 0,.int .i64 0,.int .i64 0] 45) t0;have at3:=zam (.cells #[.int .i64 0,.int .i64 0,.int .i64 0,.int .i64 0] 45) t3;have a0:=zam (.cells #[.int .i64 0,.int .i64 0,.int .i64 0,.int .i64 0] 45) o0;have a1:=zam (.cells #[.int .i64 0,.int .i64 0,.int .i64 0,.int .i64 0] 45) o1;have a2:=zam (.cells #[.int .i64 0,.int .i64 0,.int .i64 0,.int .i64 0] 45) o2;have a3:=zam (.cells #[.int .i64 0,.int .i64 0,.int .i64 0,.int .i64 0] 45) o3;have h1:=(h.alloc (.cells #[.int .i64 ok,.int .i64 (c:Int),.int .i64 ob,.int .i64 oc] 45)).drew;have k1:KeepM w (w.alloc (.cells #[.int .i64 ok,.int .i64 (c:Int),.int .i64 ob,.int .i64 oc] 45)).drew:=KeepM.alloc KeepM.refl _;have e1:(w.alloc (.cells #[.int .i64 ok,.int .i64 (c:Int),.int .i64 ob,.int .i64 oc] 45)).drew.heap[w.heap.size]?=_:=heap_alloc_new w (.cells #[.int .i64 ok,.int .i64 (c:Int),.int .i64 ob,.int .i64 oc] 45);have s1:(w.alloc (.cells #[.int .i64 ok,.int .i64 (c:Int),.int .i64 ob,.int .i64 oc] 45)).drew.heap.size=w.heap.size+1:=by
  show (w.alloc _).heap.size=_;simp
 generalize hM:w.heap.size=N at *;replace hM:=yay hM;replace h:=yay h;replace ct:=yay ct;replace hok:=yay hok;replace hat:=yay hat;replace hvo:=yay hvo;replace hlen:=yay hlen;replace ha9:=yay ha9;replace ho:=yay ho;replace h1:=yay h1;replace k1:=yay k1;replace e1:=yay e1;replace s1:=yay s1;go_enter Try.func149,Try.ntmps149
 go_upto_region 0 with fail
 go_cut [4] (fun v wx=>v = .pointer (some ⟨N,0,none⟩)∧wx=(w.alloc (.cells #[.int .i64 ok,.int .i64 (c:Int),.int .i64 ob,.int .i64 oc] 45)).drew)
 case first =>
  go_region
  all_goals (go_wp2_with fail;go_meet)
  all_goals exact ⟨by rw [hM.out],rfl⟩
 case rest =>
 obtain ⟨rfl,rfl⟩:=hcut;clear m1 t0 t3 am1 at0 at3 a0 a1 a2 a3 o0 o1 o2 o3 hat';generalize (w.alloc (.cells #[.int .i64 ok,.int .i64 (c:Int),.int .i64 ob,.int .i64 oc] 45)).drew=w1 at *;have m0:=h1.out.cellM 0;have b1:=zab e1.out 1;have x0:=h1.out.cellC hc (k:=0) (by decide);have x1:=h1.out.cellC hc (k:=1) (by decide);have x2:=h1.out.cellC hc (k:=2) (by decide);have x3:=h1.out.cellC hc (k:=3) (by decide);simp only [ccV,yac,yaa,yab,hca,Nat.add_zero] at m0 b1 x0 x1 x2 x3;have c0:=zam (.cells #[.int .i64 0,.bool false,.int .i64 0,.int .i64 0] 262) m0;have c1:=zam (.cells #[.int .i64 0,.bool false,.int .i64 0,.int .i64 0] 262) b1;have c2:=zam (.cells #[.int .i64 0,.bool false,.int .i64 0,.int .i64 0] 262) x0;have c3:=zam (.cells #[.int .i64 0,.bool false,.int .i64 0,.int .i64 0] 262) x1;have c4:=zam (.cells #[.int .i64 0,.bool false,.int .i64 0,.int .i64 0] 262) x2;have c5:=zam (.cells #[.int .i64 0,.bool false,.int .i64 0,.int .i64 0] 262) x3;go_upto_region 1 with fail
 go_cut [5] (fun v wx=>v = .pointer (some ⟨N+1,0,none⟩)∧wx=(w1.alloc (.cells #[.int .i64 (S.W c),.bool (S.F c),.int .i64 (S.B c),.int .i64 (S.Ser c)] 262)).drew)
 case first =>
  go_region
  all_goals (go_wp2_with fail;go_meet)
  all_goals (first|exact ⟨rfl,rfl⟩|exact ⟨by rw [s1.out],rfl⟩)
 case rest =>
 obtain ⟨rfl,rfl⟩:=hcut;clear m0 b1 x0 x1 x2 x3 c0 c1 c2 c3 c4 c5;have h2:=(h1.out.alloc (.cells #[.int .i64 (S.W c),.bool (S.F c),.int .i64 (S.B c),.int .i64 (S.Ser c)] 262)).drew;have k2:KeepM w (w1.alloc (.cells #[.int .i64 (S.W c),.bool (S.F c),.int .i64 (S.B c),.int .i64 (S.Ser c)] 262)).drew:=k1.out.alloc _;have f2:(w1.alloc (.cells #[.int .i64 (S.W c),.bool (S.F c),.int .i64 (S.B c),.int .i64 (S.Ser c)] 262)).drew.heap[N+1]?=some (.cells #[.int .i64 (S.W c),.bool (S.F c),.int .i64 (S.B c),.int .i64 (S.Ser c)] 262 (0,0)):=by
  rw [← s1.out];exact heap_alloc_new w1 _
 have e2:(w1.alloc (.cells #[.int .i64 (S.W c),.bool (S.F c),.int .i64 (S.B c),.int .i64 (S.Ser c)] 262)).drew.heap[N]?=some (.cells #[.int .i64 ok,.int .i64 (c:Int),.int .i64 ob,.int .i64 oc] 45 (0,0)):=(Below.heap_alloc w1 _ _ (by rw [s1.out];omega)).trans e1.out;have nA:=zes h.out (N:=N) (by rw [hM.out];omega);have nB:=zes h.out (N:=N+1) (by rw [hM.out];omega);replace nA:=yay nA;replace nB:=yay nB;clear h1 k1 e1 s1;generalize (w1.alloc (.cells #[.int .i64 (S.W c),.bool (S.F c),.int .i64 (S.B c),.int .i64 (S.Ser c)] 262)).drew=w2 at *;replace h2:=yay h2;replace k2:=yay k2;replace e2:=yay e2;replace f2:=yay f2;have o0:=zab e2.out 0;have o1:=zab e2.out 1;have o2:=zab e2.out 2;have o3:=zab e2.out 3;have t4:=h2.out.cellT hi (k:=4) (by decide);have m1:=h2.out.cellM 1;simp only [tcV,ccV,yac,yaa,yab,hca,Nat.add_zero,GMc.setT_T] at o0 o1 o2 o3 t4 m1;have HW:=yay (zsw h2.out (o:=⟨ok,c,ob,oc⟩) (by constructor<;>simp only<;>omega) (by simp only;omega));have hT:Hid ((zdz S ⟨ok,c,ob,oc⟩).1.T=S.T∧(zdz S ⟨ok,c,ob,oc⟩).2.l=[]):=yay (by unfold zdz;(repeat' split)<;>exact ⟨rfl,rfl⟩)
 go_wp2_with (first
  | (go_at_call 185;refine HW.out.mono ?_;rintro e w' ⟨rfl,hm',hk'⟩;replace hm':=yay hm';replace hk':=yay hk';rw [show zs6 (zdz S ⟨ok,c,ob,oc⟩).2 (.slice none 0 0) = .agg #[.bool (zdz S ⟨ok,c,ob,oc⟩).2.ok,.int .i64 (zdz S ⟨ok,c,ob,oc⟩).2.n,.slice none 0 0] from rfl];have HE:=yay (zcl (r:=(zdz S ⟨ok,c,ob,oc⟩).2) hm'.out hi (by rw [hT.out.1];exact hlen.out) (by rw [hT.out.1];exact ha9.out) hT.out.2))
  | (go_at_call 182;refine HE.out.mono ?_;rintro e w' ⟨rfl,hdd⟩;replace hdd:=yay hdd))
 go_end0
 exact MDone.of (k2.out.trans hk'.out) ⟨rfl,hdd.out⟩
theorem zt1 (h:MMem K va S w) (hi:i < K.n) (hlen:(S.T i).ans.length≤100000) (ha9:(S.T i).at_≤100000) (hat:(S.T i).at_ < (S.T i).ops.length) {ok oa ob oc:Int} (ho:opG (S.T i)=⟨ok,oa,ob,oc⟩) {c:Nat} (hc:c < K.k) (hoa:oa=(c:Int)) (hk:ok=12) :
  Calls Try.prog 149 #[.pointer (some ⟨K.mb,0,none⟩),.int .i64 i] w (MDone K (zgl S i ⟨true,S.B c,[]⟩) w):=by
 have hi':(i:Int) < (K.n:Int):=by omega
 have hat':((S.T i).at_:Int) < ((S.T i).ops.length:Int):=by omega
 have hc':(c:Int) < (K.k:Int):=by omega
 subst hoa;subst hk;obtain ⟨hca,cb',ct⟩:=h.cs (by omega);obtain ⟨xb,xo,xc,hvo,hok,o0,o1,o2,o3⟩:=h.opAt hi rfl hat;rw [ho] at o0 o1 o2 o3;simp only at o0 o1 o2 o3;have m1:=h.cellM 1;have t0:=h.cellT hi (k:=0) (by decide);have t3:=h.cellT hi (k:=3) (by decide);simp only [tcV,yac,yaa,yab,hvo,Nat.add_zero] at m1 t0 t3;have am1:=zam (.cells #[.int .i64 0,.int .i64 0,.int .i64 0,.int .i64 0] 45) m1;have at0:=zam (.cells #[.int .i64 0,.int .i64 0,.int .i64 0,.int .i64 0] 45) t0;have at3:=zam (.cells #[.int .i64 0,.int .i64 0,.int .i64 0,.int .i64 0] 45) t3;have a0:=zam (.cells #[.int .i64 0,.int .i64 0,.int .i64 0,.int .i64 0] 45) o0;have a1:=zam (.cells #[.int .i64 0,.int .i64 0,.int .i64 0,.int .i64 0] 45) o1;have a2:=zam (.cells #[.int .i64 0,.int .i64 0,.int .i64 0,.int .i64 0] 45) o2;have a3:=zam (.cells #[.int .i64 0,.int .i64 0,.int .i64 0,.int .i64 0] 45) o3;have h1:=(h.alloc (.cells #[.int .i64 12,.int .i64 (c:Int),.int .i64 ob,.int .i64 oc] 45)).drew;have k1:KeepM w (w.alloc (.cells #[.int .i64 12,.int .i64 (c:Int),.int .i64 ob,.int .i64 oc] 45)).drew:=KeepM.alloc KeepM.refl _;have e1:(w.alloc (.cells #[.int .i64 12,.int .i64 (c:Int),.int .i64 ob,.int .i64 oc] 45)).drew.heap[w.heap.size]?=_:=heap_alloc_new w (.cells #[.int .i64 12,.int .i64 (c:Int),.int .i64 ob,.int .i64 oc] 45);have s1:(w.alloc (.cells #[.int .i64 12,.int .i64 (c:Int),.int .i64 ob,.int .i64 oc] 45)).drew.heap.size=w.heap.size+1:=by
  show (w.alloc _).heap.size=_;simp
 generalize hM:w.heap.size=N at *;replace hM:=yay hM;replace h:=yay h;replace ct:=yay ct;replace hok:=yay hok;replace hat:=yay hat;replace hvo:=yay hvo;replace hlen:=yay hlen;replace ha9:=yay ha9;replace ho:=yay ho;replace h1:=yay h1;replace k1:=yay k1;replace e1:=yay e1;replace s1:=yay s1;go_enter Try.func149,Try.ntmps149
 go_upto_region 0 with fail
 go_cut [4] (fun v wx=>v = .pointer (some ⟨N,0,none⟩)∧wx=(w.alloc (.cells #[.int .i64 12,.int .i64 (c:Int),.int .i64 ob,.int .i64 oc] 45)).drew)
 case first =>
  go_region
  all_goals (go_wp2_with fail;go_meet)
  all_goals exact ⟨by rw [hM.out],rfl⟩
 case rest =>
 obtain ⟨rfl,rfl⟩:=hcut;clear m1 t0 t3 am1 at0 at3 a0 a1 a2 a3 o0 o1 o2 o3 hat';generalize (w.alloc (.cells #[.int .i64 12,.int .i64 (c:Int),.int .i64 ob,.int .i64 oc] 45)).drew=w1 at *;have m0:=h1.out.cellM 0;have b1:=zab e1.out 1;have x0:=h1.out.cellC hc (k:=0) (by decide);have x1:=h1.out.cellC hc (k:=1) (by decide);have x2:=h1.out.cellC hc (k:=2) (by decide);have x3:=h1.out.cellC hc (k:=3) (by decide);simp only [ccV,yac,yaa,yab,hca,Nat.add_zero] at m0 b1 x0 x1 x2 x3;have c0:=zam (.cells #[.int .i64 0,.bool false,.int .i64 0,.int .i64 0] 262) m0;have c1:=zam (.cells #[.int .i64 0,.bool false,.int .i64 0,.int .i64 0] 262) b1;have c2:=zam (.cells #[.int .i64 0,.bool false,.int .i64 0,.int .i64 0] 262) x0;have c3:=zam (.cells #[.int .i64 0,.bool false,.int .i64 0,.int .i64 0] 262) x1;have c4:=zam (.cells #[.int .i64 0,.bool false,.int .i64 0,.int .i64 0] 262) x2;have c5:=zam (.cells #[.int .i64 0,.bool false,.int .i64 0,.int .i64 0] 262) x3;go_upto_region 1 with fail
 go_cut [5] (fun v wx=>v = .pointer (some ⟨N+1,0,none⟩)∧wx=(w1.alloc (.cells #[.int .i64 (S.W c),.bool (S.F c),.int .i64 (S.B c),.int .i64 (S.Ser c)] 262)).drew)
 case first =>
  go_region
  all_goals (go_wp2_with fail;go_meet)
  all_goals (first|exact ⟨rfl,rfl⟩|exact ⟨by rw [s1.out],rfl⟩)
 case rest =>
 obtain ⟨rfl,rfl⟩:=hcut;clear m0 b1 x0 x1 x2 x3 c0 c1 c2 c3 c4 c5;have h2:=(h1.out.alloc (.cells #[.int .i64 (S.W c),.bool (S.F c),.int .i64 (S.B c),.int .i64 (S.Ser c)] 262)).drew;have k2:KeepM w (w1.alloc (.cells #[.int .i64 (S.W c),.bool (S.F c),.int .i64 (S.B c),.int .i64 (S.Ser c)] 262)).drew:=k1.out.alloc _;have f2:(w1.alloc (.cells #[.int .i64 (S.W c),.bool (S.F c),.int .i64 (S.B c),.int .i64 (S.Ser c)] 262)).drew.heap[N+1]?=some (.cells #[.int .i64 (S.W c),.bool (S.F c),.int .i64 (S.B c),.int .i64 (S.Ser c)] 262 (0,0)):=by
  rw [← s1.out];exact heap_alloc_new w1 _
 have e2:(w1.alloc (.cells #[.int .i64 (S.W c),.bool (S.F c),.int .i64 (S.B c),.int .i64 (S.Ser c)] 262)).drew.heap[N]?=some (.cells #[.int .i64 12,.int .i64 (c:Int),.int .i64 ob,.int .i64 oc] 45 (0,0)):=(Below.heap_alloc w1 _ _ (by rw [s1.out];omega)).trans e1.out;have nA:=zes h.out (N:=N) (by rw [hM.out];omega);have nB:=zes h.out (N:=N+1) (by rw [hM.out];omega);replace nA:=yay nA;replace nB:=yay nB;clear h1 k1 e1 s1;generalize (w1.alloc (.cells #[.int .i64 (S.W c),.bool (S.F c),.int .i64 (S.B c),.int .i64 (S.Ser c)] 262)).drew=w2 at *;replace h2:=yay h2;replace k2:=yay k2;replace e2:=yay e2;replace f2:=yay f2;have o0:=zab e2.out 0;have c2:=zab f2.out 2;simp only [tcV,ccV,yac,yaa,yab,hca,Nat.add_zero,GMc.setT_T] at o0 c2;have HE:=yay (zcl (r:=⟨true,S.B c,[]⟩) (h2.out) hi (by first|exact hlen.out|(simp only [GMc.setW_T,GMc.setF_T,GMc.lay_T,GMc.setT_T];exact hlen.out)) (by first|exact ha9.out|(simp only [GMc.setW_T,GMc.setF_T,GMc.lay_T,GMc.setT_T];exact ha9.out)) rfl)
 go_wp2_with (go_at_call 182;refine HE.out.mono ?_;rintro e w' ⟨rfl,hdd⟩;replace hdd:=yay hdd)
 go_end0
 exact MDone.of k2.out ⟨rfl,hdd.out⟩
end
end Go.Proofs.Ytofacoojpgkbiaa.Cl
