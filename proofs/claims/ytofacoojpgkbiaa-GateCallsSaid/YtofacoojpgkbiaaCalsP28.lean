/-
  A part of a proof. No condition of its own.
-/
import Derived.Test.YtofacoojpgkbiaaCalsP27
set_option linter.unusedVariables false
set_option maxHeartbeats 8000000
set_option linter.unusedSimpArgs false
namespace Go.Proofs.Ytofacoojpgkbiaa
open Go.Conc Go.RowKit
open Go.ConcN (upd upd_ne upd_same)
set_option maxRecDepth 100000
section
variable {K:MK} {V:MV} {S:GMc} {w:World} {i:Nat}
theorem zws (h:MMem K V S w) (hi:i < K.n) (hlen:(S.T i).ans.length≤100000) (hat:(S.T i).at_≤100000) {ok oa ob oc pc:Int} {j pn:Nat} (hw2:IntKind.i64.wrap (pc - 2)=(j:Int)) (hw1:IntKind.i64.wrap (pc - 1)=(j:Int)+1) (c1:(pc==1)=false) (c2:decide (1 < pc)=true) (hj:(S.T i).list[j]?=some (pn:Int)) (hpn:pn < 64) (c3:(pc==2)=true) (hll:j+1 < (S.T i).list.length) :
  Calls Try.prog 180 #[.pointer (some ⟨K.mb,0,none⟩),.int .i64 i,.agg #[.int .i64 ok,.int .i64 oa,.int .i64 ob,.int .i64 oc],.int .i64 pc] w (MDone K ((S.setT i { S.T i with least:=S.N pn,place:=(pn:Int) })) w):=by
 have hi':(i:Int) < (K.n:Int):=by omega
 have h0:=h.alloc (.cells #[.int .i64 ok,.int .i64 oa,.int .i64 ob,.int .i64 oc] 45);have k0:KeepM K.nb w (w.alloc (.cells #[.int .i64 ok,.int .i64 oa,.int .i64 ob,.int .i64 oc] 45)):=KeepM.refl.alloc _;have EN:=heap_alloc_new w (.cells #[.int .i64 ok,.int .i64 oa,.int .i64 ob,.int .i64 oc] 45);generalize hM:w.heap.size=M at *;replace hM:=yay hM;replace h:=yay h;go_enter Try.func180,Try.ntmps180
 go_upto_region 1 with fail
 rw [hM.out];generalize w.alloc (.cells #[.int .i64 ok,.int .i64 oa,.int .i64 ob,.int .i64 oc] 45)=w1 at *;have HB:Hid (∀ W,KeepM K.nb w1 W→W.heap[M]?=some (.cells #[.int .i64 ok,.int .i64 oa,.int .i64 ob,.int .i64 oc] 45 (0,0))):=yay fun W k=>k M _ 45 EN (by decide) (by decide) (by decide) (fun z=>by
  obtain ⟨c,n1,_⟩:=h0.num;rw [← z,EN] at n1;simp at n1)
 have kk:Hid (KeepM K.nb w1 w1):=yay KeepM.refl;replace EN:=yay EN;replace h0:=yay h0;replace k0:=yay k0;obtain ⟨la,lc,hvl,hlc,_,hlq⟩:=h0.out.vls i hi;replace hlen:=yay hlen;replace hat:=yay hat;have hjl:=(yai.1 hj).1;obtain ⟨lb,lo,lcs,rfl,hlb,hlh,hlx⟩:=hlq (by intro q;rw [q] at hjl;simp at hjl);have hlv:=hlx j _ hj;have HL:Hid (∀ W,KeepM K.nb w1 W→W.cell? ⟨lb,lo+j,none⟩=some (.int .i64 (pn:Int))):=yay fun W k=>(zac (k lb _ 2 hlh (by decide) (by decide) (by decide) hlb) _).trans hlv;obtain ⟨ln,hln⟩:∃ n,(S.T i).list.length=n:=⟨_,rfl⟩;rw [hln] at hjl hvl hlc;have hjl':(j:Int) < (ln:Int):=by omega
 have hpn':(pn:Int) < 64:=by omega
 clear hlx hlv hlq hlh;have c5:decide ((j:Int)+1 < (ln:Int))=true:=decide_eq_true (by have:=hll;omega);have x0m2:=h0.out.cellM 2;have x0m3:=h0.out.cellM 3;have x0t5:=h0.out.cellT hi (k:=5) (by decide);simp only [tcV,yac,yaa,yab,GMc.setT_T,GMc.setT_L,GMc.setT_ser,GMc.setT_N] at x0m2 x0m3 x0t5;rw [hvl] at x0t5;have x0n:=h0.out.cellN hpn;have x0l:=HL.out _ KeepM.refl;have c0:((ln:Int)==0)=false:=by simp;omega
 replace hvl:=yay hvl;replace hlc:=yay hlc;replace hj:=yay hj;replace hln:=yay hln;replace hll:=yay hll;replace hpn:=yay hpn;have h1:=yay h0.out.drew;have k1:Hid (KeepM K.nb w1 w1.drew):=yay kk.out;go_upto_region 7 with fail
 go_cut [9] (fun v wy=>v = .int .i64 (S.N pn)∧wy=w1.drew)
 case first =>
  go_region
  all_goals (go_wp2_with fail;go_meet)
  all_goals exact ⟨rfl,rfl⟩
 case rest =>
  obtain ⟨rfl,rfl⟩:=hcut;clear x0m2 x0m3 x0t5 x0n x0l;generalize w1.drew=w2 at *;have x1m3:=h1.out.cellM 3;have x1t7:=h1.out.cellT hi (k:=7) (by decide);simp only [tcV,yac,yaa,yab,GMc.setT_T,GMc.setT_L,GMc.setT_ser,GMc.setT_N] at x1m3 x1t7;have x1z7:=h1.out.trow.free (i * 9+7);obtain ⟨V2,h2,k2⟩:=h1.out.setLeast hi (rfl) (S.N pn);replace k2:KeepM K.nb w1 (w2.setCell ⟨K.tb,i * 9+7,none⟩ (.int .i64 (S.N pn))):=k1.out.trans k2;replace h2:=yay h2;replace k2:=yay k2;go_upto_region 10 with fail
  clear x1m3 x1t7 x1z7;generalize w2.setCell ⟨K.tb,i * 9+7,none⟩ (.int .i64 (S.N pn))=w3 at *;have x2m3:=h2.out.cellM 3;have x2t8:=h2.out.cellT hi (k:=8) (by decide);simp only [tcV,yac,yaa,yab,GMc.setT_T,GMc.setT_L,GMc.setT_ser,GMc.setT_N] at x2m3 x2t8;have x2z8:=h2.out.trow.free (i * 9+8);have x2l:=HL.out _ k2.out;obtain ⟨V3,h3,k3⟩:=h2.out.setPlace hi (GMc.setT_T _ _ _) (pn:Int);rw [GMc.setT_setT] at h3;replace h3:=h3.drew;replace k3:KeepM K.nb w1 ((w3.setCell ⟨K.tb,i * 9+8,none⟩ (.int .i64 (pn:Int))).drew):=k2.out.trans k3;replace h3:=yay h3;replace k3:=yay k3
  go_cut [80] (fun v wy=>wy=(w3.setCell ⟨K.tb,i * 9+8,none⟩ (.int .i64 (pn:Int))).drew)
  case first =>
   go_region
   all_goals (go_wp2_with fail;go_meet)
   all_goals rfl
  case rest =>
   subst hcut;clear x2m3 x2t8 x2z8 x2l;generalize (w3.setCell ⟨K.tb,i * 9+8,none⟩ (.int .i64 (pn:Int))).drew=w4 at *
   go_wp2_with fail
   go_end0
   exact ⟨rfl,_,h3.out,k0.out.trans k3.out⟩
theorem zt9 (h:MMem K V S w) (hi:i < K.n) (hlen:(S.T i).ans.length≤100000) (hat:(S.T i).at_≤100000) {ok oa ob oc pc:Int} {j pn:Nat} (hw2:IntKind.i64.wrap (pc - 2)=(j:Int)) (hw1:IntKind.i64.wrap (pc - 1)=(j:Int)+1) (c1:(pc==1)=false) (c2:decide (1 < pc)=true) (hj:(S.T i).list[j]?=some (pn:Int)) (hpn:pn < 64) (c3:(pc==2)=true) (hll:(S.T i).list.length≤j+1) (hk:ok=6) :
  Calls Try.prog 180 #[.pointer (some ⟨K.mb,0,none⟩),.int .i64 i,.agg #[.int .i64 ok,.int .i64 oa,.int .i64 ob,.int .i64 oc],.int .i64 pc] w (MDone K ((S.setT i { S.T i with least:=S.N pn,place:=(pn:Int) }).setT i (zdw ((S.setT i { S.T i with least:=S.N pn,place:=(pn:Int) }).T i) ⟨true,S.N pn,[(pn:Int)]⟩)) w):=by
 have hi':(i:Int) < (K.n:Int):=by omega
 subst hk;have h0:=h.alloc (.cells #[.int .i64 6,.int .i64 oa,.int .i64 ob,.int .i64 oc] 45);have k0:KeepM K.nb w (w.alloc (.cells #[.int .i64 6,.int .i64 oa,.int .i64 ob,.int .i64 oc] 45)):=KeepM.refl.alloc _;have EN:=heap_alloc_new w (.cells #[.int .i64 6,.int .i64 oa,.int .i64 ob,.int .i64 oc] 45);generalize hM:w.heap.size=M at *;replace hM:=yay hM;replace h:=yay h;go_enter Try.func180,Try.ntmps180
 go_upto_region 1 with fail
 rw [hM.out];generalize w.alloc (.cells #[.int .i64 6,.int .i64 oa,.int .i64 ob,.int .i64 oc] 45)=w1 at *;have HB:Hid (∀ W,KeepM K.nb w1 W→W.heap[M]?=some (.cells #[.int .i64 6,.int .i64 oa,.int .i64 ob,.int .i64 oc] 45 (0,0))):=yay fun W k=>k M _ 45 EN (by decide) (by decide) (by decide) (fun z=>by
  obtain ⟨c,n1,_⟩:=h0.num;rw [← z,EN] at n1;simp at n1)
 have kk:Hid (KeepM K.nb w1 w1):=yay KeepM.refl;replace EN:=yay EN;replace h0:=yay h0;replace k0:=yay k0;obtain ⟨la,lc,hvl,hlc,_,hlq⟩:=h0.out.vls i hi;replace hlen:=yay hlen;replace hat:=yay hat;have hjl:=(yai.1 hj).1;obtain ⟨lb,lo,lcs,rfl,hlb,hlh,hlx⟩:=hlq (by intro q;rw [q] at hjl;simp at hjl);have hlv:=hlx j _ hj;have HL:Hid (∀ W,KeepM K.nb w1 W→W.cell? ⟨lb,lo+j,none⟩=some (.int .i64 (pn:Int))):=yay fun W k=>(zac (k lb _ 2 hlh (by decide) (by decide) (by decide) hlb) _).trans hlv;obtain ⟨ln,hln⟩:∃ n,(S.T i).list.length=n:=⟨_,rfl⟩;rw [hln] at hjl hvl hlc;have hjl':(j:Int) < (ln:Int):=by omega
 have hpn':(pn:Int) < 64:=by omega
 clear hlx hlv hlq hlh;have c5:decide ((j:Int)+1 < (ln:Int))=false:=decide_eq_false (by have:=hll;omega);have x0m2:=h0.out.cellM 2;have x0m3:=h0.out.cellM 3;have x0t5:=h0.out.cellT hi (k:=5) (by decide);simp only [tcV,yac,yaa,yab,GMc.setT_T,GMc.setT_L,GMc.setT_ser,GMc.setT_N] at x0m2 x0m3 x0t5;rw [hvl] at x0t5;have x0n:=h0.out.cellN hpn;have x0l:=HL.out _ KeepM.refl;have c0:((ln:Int)==0)=false:=by simp;omega
 replace hvl:=yay hvl;replace hlc:=yay hlc;replace hj:=yay hj;replace hln:=yay hln;replace hll:=yay hll;replace hpn:=yay hpn;have h1:=yay h0.out.drew;have k1:Hid (KeepM K.nb w1 w1.drew):=yay kk.out;go_upto_region 7 with fail
 go_cut [9] (fun v wy=>v = .int .i64 (S.N pn)∧wy=w1.drew)
 case first =>
  go_region
  all_goals (go_wp2_with fail;go_meet)
  all_goals exact ⟨rfl,rfl⟩
 case rest =>
  obtain ⟨rfl,rfl⟩:=hcut;clear x0m2 x0m3 x0t5 x0n x0l;generalize w1.drew=w2 at *;have x1m3:=h1.out.cellM 3;have x1t7:=h1.out.cellT hi (k:=7) (by decide);simp only [tcV,yac,yaa,yab,GMc.setT_T,GMc.setT_L,GMc.setT_ser,GMc.setT_N] at x1m3 x1t7;have x1z7:=h1.out.trow.free (i * 9+7);obtain ⟨V2,h2,k2⟩:=h1.out.setLeast hi (rfl) (S.N pn);replace k2:KeepM K.nb w1 (w2.setCell ⟨K.tb,i * 9+7,none⟩ (.int .i64 (S.N pn))):=k1.out.trans k2;replace h2:=yay h2;replace k2:=yay k2;go_upto_region 10 with fail
  clear x1m3 x1t7 x1z7;generalize w2.setCell ⟨K.tb,i * 9+7,none⟩ (.int .i64 (S.N pn))=w3 at *;have x2m3:=h2.out.cellM 3;have x2t8:=h2.out.cellT hi (k:=8) (by decide);simp only [tcV,yac,yaa,yab,GMc.setT_T,GMc.setT_L,GMc.setT_ser,GMc.setT_N] at x2m3 x2t8;have x2z8:=h2.out.trow.free (i * 9+8);have x2l:=HL.out _ k2.out;obtain ⟨V3,h3,k3⟩:=h2.out.setPlace hi (GMc.setT_T _ _ _) (pn:Int);rw [GMc.setT_setT] at h3;replace h3:=h3.drew;replace k3:KeepM K.nb w1 ((w3.setCell ⟨K.tb,i * 9+8,none⟩ (.int .i64 (pn:Int))).drew):=k2.out.trans k3;replace h3:=yay h3;replace k3:=yay k3
  go_cut [80] (fun v wy=>wy=(w3.setCell ⟨K.tb,i * 9+8,none⟩ (.int .i64 (pn:Int))).drew)
  case first =>
   go_region
   all_goals (go_wp2_with fail;go_meet)
   all_goals rfl
  case rest =>
   subst hcut;clear x2m3 x2t8 x2z8 x2l;generalize (w3.setCell ⟨K.tb,i * 9+8,none⟩ (.int .i64 (pn:Int))).drew=w4 at *;have x3g:=HB.out _ k3.out;have x3o0:=zac x3g 0;clear x3g;simp only [tcV,yac,yaa,yab,GMc.setT_T,GMc.setT_L,GMc.setT_ser,GMc.setT_N] at x3o0;have x3m3:=h3.out.cellM 3;have x3t7:=h3.out.cellT hi (k:=7) (by decide);have x3t8:=h3.out.cellT hi (k:=8) (by decide);simp only [tcV,yac,yaa,yab,GMc.setT_T,GMc.setT_L,GMc.setT_ser,GMc.setT_N] at x3m3 x3t7 x3t8;have al:∀ {a:Addr} {v:Value} (o:Obj),w4.cell? a=some v→(w4.alloc o).cell? a=some v:=fun {a v} o hv=>(World.cell?_of_block (w:=w4) (Below.heap_alloc _ _ _ (World.block_lt_of_cell? w4 _ hv))).trans hv;have ym3:=al (.cells #[.int .i64 ((pn:Int))] 2) x3m3;have yt7:=al (.cells #[.int .i64 ((pn:Int))] 2) x3t7;have yt8:=al (.cells #[.int .i64 ((pn:Int))] 2) x3t8;clear al;have LX:LstN K.nb (w4.alloc (.cells #[.int .i64 ((pn:Int))] 2)).drew (.slice (some ⟨w4.heap.size,0,none⟩) 1 1) [(pn:Int)]:=by
    refine ⟨_,1,rfl,yax _,fun z=>(by cases z),fun _=>⟨w4.heap.size,0,_,rfl,?_,heap_alloc_new w4 (.cells #[.int .i64 ((pn:Int))] 2),fun j x hj=>?_⟩⟩
    ·obtain ⟨c,n1,_⟩:=h3.out.num;have:=(yah.1 n1).1;omega
    ·rcases j with _|j
     ·obtain rfl:(pn:Int)=x:=by simpa using hj
      rfl
     ·simp at hj
   have kx:Hid (KeepM K.nb w1 (w4.alloc (.cells #[.int .i64 ((pn:Int))] 2)).drew):=yay (KeepM.alloc k3.out _);have HE:=yay (zbs (r:=⟨true,S.N pn,[(pn:Int)]⟩) ((h3.out.alloc (.cells #[.int .i64 ((pn:Int))] 2)).drew) hi (by first|exact hlen.out|(rw [GMc.setT_T];exact hlen.out)) (by first|exact hat.out|(rw [GMc.setT_T];exact hat.out)) LX);replace LX:=yay LX;go_upto_region 13 with fail
   go_cut [99] (fun v wy=>MDone K (((S.setT i { { S.T i with least:=S.N pn } with place:=(pn:Int) })).setT i (zdw (((S.setT i { { S.T i with least:=S.N pn } with place:=(pn:Int) })).T i) ⟨true,S.N pn,[(pn:Int)]⟩)) w (.returned (.tuple #[])) wy)
   case first =>
    go_region_held3 (fun W'=>W'.cell? ⟨K.mb,3,none⟩=some (.slice (some ⟨K.tb,0,none⟩) K.n K.cap)∧W'.cell? ⟨K.tb,i * 9+7,none⟩=some (.int .i64 (S.N pn))∧W'.cell? ⟨K.tb,i * 9+8,none⟩=some (.int .i64 ((pn:Int))))
     (first|exact ⟨x3m3,x3t7,x3t8⟩|exact ⟨ym3,yt7,yt8⟩|exact zn2 hdd.out hi (by simp only [zdw,GMc.setT_T]) (by simp only [zdw,GMc.setT_T]))
     ((go_at_call 176;refine HE.out.mono ?_;rintro e w' ⟨rfl,hdd⟩;replace hdd:=yay hdd))
    all_goals (go_wp2_with fail;go_meet)
    all_goals exact MDone.of (k0.out.trans kx.out) ⟨rfl,hdd.out⟩
   case rest =>
    replace hcut:=yay hcut
    go_wp2_with fail
    go_end0
    exact hcut.out
theorem zub (h:MMem K V S w) (hi:i < K.n) (hlen:(S.T i).ans.length≤100000) (hat:(S.T i).at_≤100000) {ok oa ob oc pc:Int} {j pn:Nat} (hw2:IntKind.i64.wrap (pc - 2)=(j:Int)) (hw1:IntKind.i64.wrap (pc - 1)=(j:Int)+1) (c1:(pc==1)=false) (c2:decide (1 < pc)=true) (hj:(S.T i).list[j]?=some (pn:Int)) (hpn:pn < 64) (c3:(pc==2)=true) (hll:(S.T i).list.length≤j+1) (hk:(ok==6)=false) (hal:zdz (S.N pn) oa ob=true) :
  Calls Try.prog 180 #[.pointer (some ⟨K.mb,0,none⟩),.int .i64 i,.agg #[.int .i64 ok,.int .i64 oa,.int .i64 ob,.int .i64 oc],.int .i64 pc] w (MDone K ((S.setT i { S.T i with least:=S.N pn,place:=(pn:Int) }).setT i (zdw ((S.setT i { S.T i with least:=S.N pn,place:=(pn:Int) }).T i) ⟨true,-1,[]⟩)) w):=by
 have hi':(i:Int) < (K.n:Int):=by omega
 have h0:=h.alloc (.cells #[.int .i64 ok,.int .i64 oa,.int .i64 ob,.int .i64 oc] 45);have k0:KeepM K.nb w (w.alloc (.cells #[.int .i64 ok,.int .i64 oa,.int .i64 ob,.int .i64 oc] 45)):=KeepM.refl.alloc _;have EN:=heap_alloc_new w (.cells #[.int .i64 ok,.int .i64 oa,.int .i64 ob,.int .i64 oc] 45);generalize hM:w.heap.size=M at *;replace hM:=yay hM;replace h:=yay h;go_enter Try.func180,Try.ntmps180
 go_upto_region 1 with fail
 rw [hM.out];generalize w.alloc (.cells #[.int .i64 ok,.int .i64 oa,.int .i64 ob,.int .i64 oc] 45)=w1 at *;have HB:Hid (∀ W,KeepM K.nb w1 W→W.heap[M]?=some (.cells #[.int .i64 ok,.int .i64 oa,.int .i64 ob,.int .i64 oc] 45 (0,0))):=yay fun W k=>k M _ 45 EN (by decide) (by decide) (by decide) (fun z=>by
  obtain ⟨c,n1,_⟩:=h0.num;rw [← z,EN] at n1;simp at n1)
 have kk:Hid (KeepM K.nb w1 w1):=yay KeepM.refl;replace EN:=yay EN;replace h0:=yay h0;replace k0:=yay k0;obtain ⟨la,lc,hvl,hlc,_,hlq⟩:=h0.out.vls i hi;replace hlen:=yay hlen;replace hat:=yay hat;have hjl:=(yai.1 hj).1;obtain ⟨lb,lo,lcs,rfl,hlb,hlh,hlx⟩:=hlq (by intro q;rw [q] at hjl;simp at hjl);have hlv:=hlx j _ hj;have HL:Hid (∀ W,KeepM K.nb w1 W→W.cell? ⟨lb,lo+j,none⟩=some (.int .i64 (pn:Int))):=yay fun W k=>(zac (k lb _ 2 hlh (by decide) (by decide) (by decide) hlb) _).trans hlv;obtain ⟨ln,hln⟩:∃ n,(S.T i).list.length=n:=⟨_,rfl⟩;rw [hln] at hjl hvl hlc;have hjl':(j:Int) < (ln:Int):=by omega
 have hpn':(pn:Int) < 64:=by omega
 clear hlx hlv hlq hlh;have c5:decide ((j:Int)+1 < (ln:Int))=false:=decide_eq_false (by have:=hll;omega);have x0m2:=h0.out.cellM 2;have x0m3:=h0.out.cellM 3;have x0t5:=h0.out.cellT hi (k:=5) (by decide);simp only [tcV,yac,yaa,yab,GMc.setT_T,GMc.setT_L,GMc.setT_ser,GMc.setT_N] at x0m2 x0m3 x0t5;rw [hvl] at x0t5;have x0n:=h0.out.cellN hpn;have x0l:=HL.out _ KeepM.refl;have c0:((ln:Int)==0)=false:=by simp;omega
 replace hvl:=yay hvl;replace hlc:=yay hlc;replace hj:=yay hj;replace hln:=yay hln;replace hll:=yay hll;replace hpn:=yay hpn;have h1:=yay h0.out.drew;have k1:Hid (KeepM K.nb w1 w1.drew):=yay kk.out;go_upto_region 7 with fail
 go_cut [9] (fun v wy=>v = .int .i64 (S.N pn)∧wy=w1.drew)
 case first =>
  go_region
  all_goals (go_wp2_with fail;go_meet)
  all_goals exact ⟨rfl,rfl⟩
 case rest =>
  obtain ⟨rfl,rfl⟩:=hcut;clear x0m2 x0m3 x0t5 x0n x0l;generalize w1.drew=w2 at *;have x1m3:=h1.out.cellM 3;have x1t7:=h1.out.cellT hi (k:=7) (by decide);simp only [tcV,yac,yaa,yab,GMc.setT_T,GMc.setT_L,GMc.setT_ser,GMc.setT_N] at x1m3 x1t7;have x1z7:=h1.out.trow.free (i * 9+7);obtain ⟨V2,h2,k2⟩:=h1.out.setLeast hi (rfl) (S.N pn);replace k2:KeepM K.nb w1 (w2.setCell ⟨K.tb,i * 9+7,none⟩ (.int .i64 (S.N pn))):=k1.out.trans k2;replace h2:=yay h2;replace k2:=yay k2;go_upto_region 10 with fail
  clear x1m3 x1t7 x1z7;generalize w2.setCell ⟨K.tb,i * 9+7,none⟩ (.int .i64 (S.N pn))=w3 at *;have x2m3:=h2.out.cellM 3;have x2t8:=h2.out.cellT hi (k:=8) (by decide);simp only [tcV,yac,yaa,yab,GMc.setT_T,GMc.setT_L,GMc.setT_ser,GMc.setT_N] at x2m3 x2t8;have x2z8:=h2.out.trow.free (i * 9+8);have x2l:=HL.out _ k2.out;obtain ⟨V3,h3,k3⟩:=h2.out.setPlace hi (GMc.setT_T _ _ _) (pn:Int);rw [GMc.setT_setT] at h3;replace h3:=h3.drew;replace k3:KeepM K.nb w1 ((w3.setCell ⟨K.tb,i * 9+8,none⟩ (.int .i64 (pn:Int))).drew):=k2.out.trans k3;replace h3:=yay h3;replace k3:=yay k3
  go_cut [80] (fun v wy=>wy=(w3.setCell ⟨K.tb,i * 9+8,none⟩ (.int .i64 (pn:Int))).drew)
  case first =>
   go_region
   all_goals (go_wp2_with fail;go_meet)
   all_goals rfl
  case rest =>
   subst hcut;clear x2m3 x2t8 x2z8 x2l;generalize (w3.setCell ⟨K.tb,i * 9+8,none⟩ (.int .i64 (pn:Int))).drew=w4 at *;have x3m3:=h3.out.cellM 3;have x3t7:=h3.out.cellT hi (k:=7) (by decide);have x3g:=HB.out _ k3.out;have x3o0:=zac x3g 0;have x3o1:=zac x3g 1;have x3o2:=zac x3g 2;clear x3g;simp only [tcV,yac,yaa,yab,GMc.setT_T,GMc.setT_L,GMc.setT_ser,GMc.setT_N] at x3m3 x3t7 x3o0 x3o1 x3o2;have x9m3:w4.drew.cell? ⟨K.mb,3,none⟩=some (.slice (some ⟨K.tb,0,none⟩) K.n K.cap):=x3m3;have HE:=yay (zbs (r:=⟨true,-1,[]⟩) (h3.out.drew) hi (by first|exact hlen.out|(rw [GMc.setT_T];exact hlen.out)) (by first|exact hat.out|(rw [GMc.setT_T];exact hat.out)) (LstN.nil _ _));go_upto_region 14 with fail
   go_cut [10] (fun v wy=>v = .bool true∧wy=w4.drew)
   case first =>
    go_region_held3 (fun W'=>W'.cell? ⟨K.mb,3,none⟩=some (.slice (some ⟨K.tb,0,none⟩) K.n K.cap)∧W'.cell? ⟨K.tb,i * 9+7,none⟩=some (.int .i64 (S.N pn))∧W'.cell? ⟨M,1,none⟩=some (.int .i64 oa)∧W'.cell? ⟨M,2,none⟩=some (.int .i64 ob))
     (exact ⟨x3m3,x3t7,x3o1,x3o2⟩)
     ((go_at_call 191;refine (zd5 _).mono ?_;rintro e w' ⟨rfl,rfl⟩;rw [hal]))
    all_goals (go_wp2_with fail;go_meet)
    all_goals exact ⟨rfl,rfl⟩
   case rest =>
    obtain ⟨rfl,rfl⟩:=hcut;have kx:Hid (KeepM K.nb w1 w4.drew):=yay k3.out;generalize w4.drew=wd at *
    go_wp2_with (go_at_call 176;refine HE.out.mono ?_;rintro e w' ⟨rfl,hdd⟩;replace hdd:=yay hdd)
    go_end0
    exact MDone.of (k0.out.trans kx.out) ⟨rfl,hdd.out⟩
theorem zua (h:MMem K V S w) (hi:i < K.n) (hlen:(S.T i).ans.length≤100000) (hat:(S.T i).at_≤100000) {ok oa ob oc pc:Int} {j pn:Nat} (hw2:IntKind.i64.wrap (pc - 2)=(j:Int)) (hw1:IntKind.i64.wrap (pc - 1)=(j:Int)+1) (c1:(pc==1)=false) (c2:decide (1 < pc)=true) (hj:(S.T i).list[j]?=some (pn:Int)) (hpn:pn < 64) (c3:(pc==2)=true) (hll:(S.T i).list.length≤j+1) (hk:(ok==6)=false) (hal:zdz (S.N pn) oa ob=false) :
  Calls Try.prog 180 #[.pointer (some ⟨K.mb,0,none⟩),.int .i64 i,.agg #[.int .i64 ok,.int .i64 oa,.int .i64 ob,.int .i64 oc],.int .i64 pc] w (MDone K ((S.setT i { S.T i with least:=S.N pn,place:=(pn:Int) }).setT i (zdw ((S.setT i { S.T i with least:=S.N pn,place:=(pn:Int) }).T i) ⟨false,(pn:Int),[]⟩)) w):=by
 have hi':(i:Int) < (K.n:Int):=by omega
 have h0:=h.alloc (.cells #[.int .i64 ok,.int .i64 oa,.int .i64 ob,.int .i64 oc] 45);have k0:KeepM K.nb w (w.alloc (.cells #[.int .i64 ok,.int .i64 oa,.int .i64 ob,.int .i64 oc] 45)):=KeepM.refl.alloc _;have EN:=heap_alloc_new w (.cells #[.int .i64 ok,.int .i64 oa,.int .i64 ob,.int .i64 oc] 45);generalize hM:w.heap.size=M at *;replace hM:=yay hM;replace h:=yay h;go_enter Try.func180,Try.ntmps180
 go_upto_region 1 with fail
 rw [hM.out];generalize w.alloc (.cells #[.int .i64 ok,.int .i64 oa,.int .i64 ob,.int .i64 oc] 45)=w1 at *;have HB:Hid (∀ W,KeepM K.nb w1 W→W.heap[M]?=some (.cells #[.int .i64 ok,.int .i64 oa,.int .i64 ob,.int .i64 oc] 45 (0,0))):=yay fun W k=>k M _ 45 EN (by decide) (by decide) (by decide) (fun z=>by
  obtain ⟨c,n1,_⟩:=h0.num;rw [← z,EN] at n1;simp at n1)
 have kk:Hid (KeepM K.nb w1 w1):=yay KeepM.refl;replace EN:=yay EN;replace h0:=yay h0;replace k0:=yay k0;obtain ⟨la,lc,hvl,hlc,_,hlq⟩:=h0.out.vls i hi;replace hlen:=yay hlen;replace hat:=yay hat;have hjl:=(yai.1 hj).1;obtain ⟨lb,lo,lcs,rfl,hlb,hlh,hlx⟩:=hlq (by intro q;rw [q] at hjl;simp at hjl);have hlv:=hlx j _ hj;have HL:Hid (∀ W,KeepM K.nb w1 W→W.cell? ⟨lb,lo+j,none⟩=some (.int .i64 (pn:Int))):=yay fun W k=>(zac (k lb _ 2 hlh (by decide) (by decide) (by decide) hlb) _).trans hlv;obtain ⟨ln,hln⟩:∃ n,(S.T i).list.length=n:=⟨_,rfl⟩;rw [hln] at hjl hvl hlc;have hjl':(j:Int) < (ln:Int):=by omega
 have hpn':(pn:Int) < 64:=by omega
 clear hlx hlv hlq hlh;have c5:decide ((j:Int)+1 < (ln:Int))=false:=decide_eq_false (by have:=hll;omega);have x0m2:=h0.out.cellM 2;have x0m3:=h0.out.cellM 3;have x0t5:=h0.out.cellT hi (k:=5) (by decide);simp only [tcV,yac,yaa,yab,GMc.setT_T,GMc.setT_L,GMc.setT_ser,GMc.setT_N] at x0m2 x0m3 x0t5;rw [hvl] at x0t5;have x0n:=h0.out.cellN hpn;have x0l:=HL.out _ KeepM.refl;have c0:((ln:Int)==0)=false:=by simp;omega
 replace hvl:=yay hvl;replace hlc:=yay hlc;replace hj:=yay hj;replace hln:=yay hln;replace hll:=yay hll;replace hpn:=yay hpn;have h1:=yay h0.out.drew;have k1:Hid (KeepM K.nb w1 w1.drew):=yay kk.out;go_upto_region 7 with fail
 go_cut [9] (fun v wy=>v = .int .i64 (S.N pn)∧wy=w1.drew)
 case first =>
  go_region
  all_goals (go_wp2_with fail;go_meet)
  all_goals exact ⟨rfl,rfl⟩
 case rest =>
  obtain ⟨rfl,rfl⟩:=hcut;clear x0m2 x0m3 x0t5 x0n x0l;generalize w1.drew=w2 at *;have x1m3:=h1.out.cellM 3;have x1t7:=h1.out.cellT hi (k:=7) (by decide);simp only [tcV,yac,yaa,yab,GMc.setT_T,GMc.setT_L,GMc.setT_ser,GMc.setT_N] at x1m3 x1t7;have x1z7:=h1.out.trow.free (i * 9+7);obtain ⟨V2,h2,k2⟩:=h1.out.setLeast hi (rfl) (S.N pn);replace k2:KeepM K.nb w1 (w2.setCell ⟨K.tb,i * 9+7,none⟩ (.int .i64 (S.N pn))):=k1.out.trans k2;replace h2:=yay h2;replace k2:=yay k2;go_upto_region 10 with fail
  clear x1m3 x1t7 x1z7;generalize w2.setCell ⟨K.tb,i * 9+7,none⟩ (.int .i64 (S.N pn))=w3 at *;have x2m3:=h2.out.cellM 3;have x2t8:=h2.out.cellT hi (k:=8) (by decide);simp only [tcV,yac,yaa,yab,GMc.setT_T,GMc.setT_L,GMc.setT_ser,GMc.setT_N] at x2m3 x2t8;have x2z8:=h2.out.trow.free (i * 9+8);have x2l:=HL.out _ k2.out;obtain ⟨V3,h3,k3⟩:=h2.out.setPlace hi (GMc.setT_T _ _ _) (pn:Int);rw [GMc.setT_setT] at h3;replace h3:=h3.drew;replace k3:KeepM K.nb w1 ((w3.setCell ⟨K.tb,i * 9+8,none⟩ (.int .i64 (pn:Int))).drew):=k2.out.trans k3;replace h3:=yay h3;replace k3:=yay k3
  go_cut [80] (fun v wy=>wy=(w3.setCell ⟨K.tb,i * 9+8,none⟩ (.int .i64 (pn:Int))).drew)
  case first =>
   go_region
   all_goals (go_wp2_with fail;go_meet)
   all_goals rfl
  case rest =>
   subst hcut;clear x2m3 x2t8 x2z8 x2l;generalize (w3.setCell ⟨K.tb,i * 9+8,none⟩ (.int .i64 (pn:Int))).drew=w4 at *;have x3m3:=h3.out.cellM 3;have x3t7:=h3.out.cellT hi (k:=7) (by decide);have x3g:=HB.out _ k3.out;have x3o0:=zac x3g 0;have x3o1:=zac x3g 1;have x3o2:=zac x3g 2;clear x3g;simp only [tcV,yac,yaa,yab,GMc.setT_T,GMc.setT_L,GMc.setT_ser,GMc.setT_N] at x3m3 x3t7 x3o0 x3o1 x3o2;have x9m3:w4.drew.cell? ⟨K.mb,3,none⟩=some (.slice (some ⟨K.tb,0,none⟩) K.n K.cap):=x3m3;have HE:=yay (zbs (r:=⟨false,(pn:Int),[]⟩) (h3.out.drew) hi (by first|exact hlen.out|(rw [GMc.setT_T];exact hlen.out)) (by first|exact hat.out|(rw [GMc.setT_T];exact hat.out)) (LstN.nil _ _));go_upto_region 14 with fail
   go_cut [10] (fun v wy=>v = .bool false∧wy=w4.drew)
   case first =>
    go_region_held3 (fun W'=>W'.cell? ⟨K.mb,3,none⟩=some (.slice (some ⟨K.tb,0,none⟩) K.n K.cap)∧W'.cell? ⟨K.tb,i * 9+7,none⟩=some (.int .i64 (S.N pn))∧W'.cell? ⟨M,1,none⟩=some (.int .i64 oa)∧W'.cell? ⟨M,2,none⟩=some (.int .i64 ob))
     (exact ⟨x3m3,x3t7,x3o1,x3o2⟩)
     ((go_at_call 191;refine (zd5 _).mono ?_;rintro e w' ⟨rfl,rfl⟩;rw [hal]))
    all_goals (go_wp2_with fail;go_meet)
    all_goals exact ⟨rfl,rfl⟩
   case rest =>
    obtain ⟨rfl,rfl⟩:=hcut;have kx:Hid (KeepM K.nb w1 w4.drew):=yay k3.out;have x9t8:=h3.out.drew.cellT hi (k:=8) (by decide);simp only [tcV,yac,yaa,yab,GMc.setT_T] at x9t8;generalize w4.drew=wd at *
    go_wp2_with (go_at_call 176;refine HE.out.mono ?_;rintro e w' ⟨rfl,hdd⟩;replace hdd:=yay hdd)
    go_end0
    exact MDone.of (k0.out.trans kx.out) ⟨rfl,hdd.out⟩
theorem zwr (h:MMem K V S w) (hi:i < K.n) (hlen:(S.T i).ans.length≤100000) (hat:(S.T i).at_≤100000) {ok oa ob oc pc:Int} {j pn:Nat} (hw2:IntKind.i64.wrap (pc - 2)=(j:Int)) (hw1:IntKind.i64.wrap (pc - 1)=(j:Int)+1) (c1:(pc==1)=false) (c2:decide (1 < pc)=true) (hj:(S.T i).list[j]?=some (pn:Int)) (hpn:pn < 64) (c3:(pc==2)=false) (c4:decide (S.N pn < (S.T i).least)=true) (hll:j+1 < (S.T i).list.length) :
  Calls Try.prog 180 #[.pointer (some ⟨K.mb,0,none⟩),.int .i64 i,.agg #[.int .i64 ok,.int .i64 oa,.int .i64 ob,.int .i64 oc],.int .i64 pc] w (MDone K ((S.setT i { S.T i with least:=S.N pn,place:=(pn:Int) })) w):=by
 have hi':(i:Int) < (K.n:Int):=by omega
 have h0:=h.alloc (.cells #[.int .i64 ok,.int .i64 oa,.int .i64 ob,.int .i64 oc] 45);have k0:KeepM K.nb w (w.alloc (.cells #[.int .i64 ok,.int .i64 oa,.int .i64 ob,.int .i64 oc] 45)):=KeepM.refl.alloc _;have EN:=heap_alloc_new w (.cells #[.int .i64 ok,.int .i64 oa,.int .i64 ob,.int .i64 oc] 45);generalize hM:w.heap.size=M at *;replace hM:=yay hM;replace h:=yay h;go_enter Try.func180,Try.ntmps180
 go_upto_region 1 with fail
 rw [hM.out];generalize w.alloc (.cells #[.int .i64 ok,.int .i64 oa,.int .i64 ob,.int .i64 oc] 45)=w1 at *;have HB:Hid (∀ W,KeepM K.nb w1 W→W.heap[M]?=some (.cells #[.int .i64 ok,.int .i64 oa,.int .i64 ob,.int .i64 oc] 45 (0,0))):=yay fun W k=>k M _ 45 EN (by decide) (by decide) (by decide) (fun z=>by
  obtain ⟨c,n1,_⟩:=h0.num;rw [← z,EN] at n1;simp at n1)
 have kk:Hid (KeepM K.nb w1 w1):=yay KeepM.refl;replace EN:=yay EN;replace h0:=yay h0;replace k0:=yay k0;obtain ⟨la,lc,hvl,hlc,_,hlq⟩:=h0.out.vls i hi;replace hlen:=yay hlen;replace hat:=yay hat;have hjl:=(yai.1 hj).1;obtain ⟨lb,lo,lcs,rfl,hlb,hlh,hlx⟩:=hlq (by intro q;rw [q] at hjl;simp at hjl);have hlv:=hlx j _ hj;have HL:Hid (∀ W,KeepM K.nb w1 W→W.cell? ⟨lb,lo+j,none⟩=some (.int .i64 (pn:Int))):=yay fun W k=>(zac (k lb _ 2 hlh (by decide) (by decide) (by decide) hlb) _).trans hlv;obtain ⟨ln,hln⟩:∃ n,(S.T i).list.length=n:=⟨_,rfl⟩;rw [hln] at hjl hvl hlc;have hjl':(j:Int) < (ln:Int):=by omega
 have hpn':(pn:Int) < 64:=by omega
 clear hlx hlv hlq hlh;have c5:decide ((j:Int)+1 < (ln:Int))=true:=decide_eq_true (by have:=hll;omega);have x0m2:=h0.out.cellM 2;have x0m3:=h0.out.cellM 3;have x0t5:=h0.out.cellT hi (k:=5) (by decide);simp only [tcV,yac,yaa,yab,GMc.setT_T,GMc.setT_L,GMc.setT_ser,GMc.setT_N] at x0m2 x0m3 x0t5;rw [hvl] at x0t5;have x0n:=h0.out.cellN hpn;have x0l:=HL.out _ KeepM.refl;have c0:((ln:Int)==0)=false:=by simp;omega
 replace hvl:=yay hvl;replace hlc:=yay hlc;replace hj:=yay hj;replace hln:=yay hln;replace hll:=yay hll;replace hpn:=yay hpn;have h1:=yay h0.out.drew;have k1:Hid (KeepM K.nb w1 w1.drew):=yay kk.out;go_upto_region 7 with fail
 go_cut [9] (fun v wy=>v = .int .i64 (S.N pn)∧wy=w1.drew)
 case first =>
  go_region
  all_goals (go_wp2_with fail;go_meet)
  all_goals exact ⟨rfl,rfl⟩
 case rest =>
  obtain ⟨rfl,rfl⟩:=hcut;clear x0m2 x0m3 x0t5 x0n x0l;generalize w1.drew=w2 at *;have x1m3:=h1.out.cellM 3;have x1t7:=h1.out.cellT hi (k:=7) (by decide);simp only [tcV,yac,yaa,yab,GMc.setT_T,GMc.setT_L,GMc.setT_ser,GMc.setT_N] at x1m3 x1t7;have x1z7:=h1.out.trow.free (i * 9+7);obtain ⟨V2,h2,k2⟩:=h1.out.setLeast hi (rfl) (S.N pn);replace k2:KeepM K.nb w1 (w2.setCell ⟨K.tb,i * 9+7,none⟩ (.int .i64 (S.N pn))):=k1.out.trans k2;replace h2:=yay h2;replace k2:=yay k2;go_upto_region 10 with fail
  clear x1m3 x1t7 x1z7;generalize w2.setCell ⟨K.tb,i * 9+7,none⟩ (.int .i64 (S.N pn))=w3 at *;have x2m3:=h2.out.cellM 3;have x2t8:=h2.out.cellT hi (k:=8) (by decide);simp only [tcV,yac,yaa,yab,GMc.setT_T,GMc.setT_L,GMc.setT_ser,GMc.setT_N] at x2m3 x2t8;have x2z8:=h2.out.trow.free (i * 9+8);have x2l:=HL.out _ k2.out;obtain ⟨V3,h3,k3⟩:=h2.out.setPlace hi (GMc.setT_T _ _ _) (pn:Int);rw [GMc.setT_setT] at h3;replace h3:=h3.drew;replace k3:KeepM K.nb w1 ((w3.setCell ⟨K.tb,i * 9+8,none⟩ (.int .i64 (pn:Int))).drew):=k2.out.trans k3;replace h3:=yay h3;replace k3:=yay k3
  go_cut [80] (fun v wy=>wy=(w3.setCell ⟨K.tb,i * 9+8,none⟩ (.int .i64 (pn:Int))).drew)
  case first =>
   go_region
   all_goals (go_wp2_with fail;go_meet)
   all_goals rfl
  case rest =>
   subst hcut;clear x2m3 x2t8 x2z8 x2l;generalize (w3.setCell ⟨K.tb,i * 9+8,none⟩ (.int .i64 (pn:Int))).drew=w4 at *
   go_wp2_with fail
   go_end0
   exact ⟨rfl,_,h3.out,k0.out.trans k3.out⟩
theorem zt6 (h:MMem K V S w) (hi:i < K.n) (hlen:(S.T i).ans.length≤100000) (hat:(S.T i).at_≤100000) {ok oa ob oc pc:Int} {j pn:Nat} (hw2:IntKind.i64.wrap (pc - 2)=(j:Int)) (hw1:IntKind.i64.wrap (pc - 1)=(j:Int)+1) (c1:(pc==1)=false) (c2:decide (1 < pc)=true) (hj:(S.T i).list[j]?=some (pn:Int)) (hpn:pn < 64) (c3:(pc==2)=false) (c4:decide (S.N pn < (S.T i).least)=true) (hll:(S.T i).list.length≤j+1) (hk:ok=6) :
  Calls Try.prog 180 #[.pointer (some ⟨K.mb,0,none⟩),.int .i64 i,.agg #[.int .i64 ok,.int .i64 oa,.int .i64 ob,.int .i64 oc],.int .i64 pc] w (MDone K ((S.setT i { S.T i with least:=S.N pn,place:=(pn:Int) }).setT i (zdw ((S.setT i { S.T i with least:=S.N pn,place:=(pn:Int) }).T i) ⟨true,S.N pn,[(pn:Int)]⟩)) w):=by
 have hi':(i:Int) < (K.n:Int):=by omega
 subst hk;have h0:=h.alloc (.cells #[.int .i64 6,.int .i64 oa,.int .i64 ob,.int .i64 oc] 45);have k0:KeepM K.nb w (w.alloc (.cells #[.int .i64 6,.int .i64 oa,.int .i64 ob,.int .i64 oc] 45)):=KeepM.refl.alloc _;have EN:=heap_alloc_new w (.cells #[.int .i64 6,.int .i64 oa,.int .i64 ob,.int .i64 oc] 45);generalize hM:w.heap.size=M at *;replace hM:=yay hM;replace h:=yay h;go_enter Try.func180,Try.ntmps180
 go_upto_region 1 with fail
 rw [hM.out];generalize w.alloc (.cells #[.int .i64 6,.int .i64 oa,.int .i64 ob,.int .i64 oc] 45)=w1 at *;have HB:Hid (∀ W,KeepM K.nb w1 W→W.heap[M]?=some (.cells #[.int .i64 6,.int .i64 oa,.int .i64 ob,.int .i64 oc] 45 (0,0))):=yay fun W k=>k M _ 45 EN (by decide) (by decide) (by decide) (fun z=>by
  obtain ⟨c,n1,_⟩:=h0.num;rw [← z,EN] at n1;simp at n1)
 have kk:Hid (KeepM K.nb w1 w1):=yay KeepM.refl;replace EN:=yay EN;replace h0:=yay h0;replace k0:=yay k0;obtain ⟨la,lc,hvl,hlc,_,hlq⟩:=h0.out.vls i hi;replace hlen:=yay hlen;replace hat:=yay hat;have hjl:=(yai.1 hj).1;obtain ⟨lb,lo,lcs,rfl,hlb,hlh,hlx⟩:=hlq (by intro q;rw [q] at hjl;simp at hjl);have hlv:=hlx j _ hj;have HL:Hid (∀ W,KeepM K.nb w1 W→W.cell? ⟨lb,lo+j,none⟩=some (.int .i64 (pn:Int))):=yay fun W k=>(zac (k lb _ 2 hlh (by decide) (by decide) (by decide) hlb) _).trans hlv;obtain ⟨ln,hln⟩:∃ n,(S.T i).list.length=n:=⟨_,rfl⟩;rw [hln] at hjl hvl hlc;have hjl':(j:Int) < (ln:Int):=by omega
 have hpn':(pn:Int) < 64:=by omega
 clear hlx hlv hlq hlh;have c5:decide ((j:Int)+1 < (ln:Int))=false:=decide_eq_false (by have:=hll;omega);have x0m2:=h0.out.cellM 2;have x0m3:=h0.out.cellM 3;have x0t5:=h0.out.cellT hi (k:=5) (by decide);simp only [tcV,yac,yaa,yab,GMc.setT_T,GMc.setT_L,GMc.setT_ser,GMc.setT_N] at x0m2 x0m3 x0t5;rw [hvl] at x0t5;have x0n:=h0.out.cellN hpn;have x0l:=HL.out _ KeepM.refl;have c0:((ln:Int)==0)=false:=by simp;omega
 replace hvl:=yay hvl;replace hlc:=yay hlc;replace hj:=yay hj;replace hln:=yay hln;replace hll:=yay hll;replace hpn:=yay hpn;have h1:=yay h0.out.drew;have k1:Hid (KeepM K.nb w1 w1.drew):=yay kk.out;go_upto_region 7 with fail
 go_cut [9] (fun v wy=>v = .int .i64 (S.N pn)∧wy=w1.drew)
 case first =>
  go_region
  all_goals (go_wp2_with fail;go_meet)
  all_goals exact ⟨rfl,rfl⟩
 case rest =>
  obtain ⟨rfl,rfl⟩:=hcut;clear x0m2 x0m3 x0t5 x0n x0l;generalize w1.drew=w2 at *;have x1m3:=h1.out.cellM 3;have x1t7:=h1.out.cellT hi (k:=7) (by decide);simp only [tcV,yac,yaa,yab,GMc.setT_T,GMc.setT_L,GMc.setT_ser,GMc.setT_N] at x1m3 x1t7;have x1z7:=h1.out.trow.free (i * 9+7);obtain ⟨V2,h2,k2⟩:=h1.out.setLeast hi (rfl) (S.N pn);replace k2:KeepM K.nb w1 (w2.setCell ⟨K.tb,i * 9+7,none⟩ (.int .i64 (S.N pn))):=k1.out.trans k2;replace h2:=yay h2;replace k2:=yay k2;go_upto_region 10 with fail
  clear x1m3 x1t7 x1z7;generalize w2.setCell ⟨K.tb,i * 9+7,none⟩ (.int .i64 (S.N pn))=w3 at *;have x2m3:=h2.out.cellM 3;have x2t8:=h2.out.cellT hi (k:=8) (by decide);simp only [tcV,yac,yaa,yab,GMc.setT_T,GMc.setT_L,GMc.setT_ser,GMc.setT_N] at x2m3 x2t8;have x2z8:=h2.out.trow.free (i * 9+8);have x2l:=HL.out _ k2.out;obtain ⟨V3,h3,k3⟩:=h2.out.setPlace hi (GMc.setT_T _ _ _) (pn:Int);rw [GMc.setT_setT] at h3;replace h3:=h3.drew;replace k3:KeepM K.nb w1 ((w3.setCell ⟨K.tb,i * 9+8,none⟩ (.int .i64 (pn:Int))).drew):=k2.out.trans k3;replace h3:=yay h3;replace k3:=yay k3
  go_cut [80] (fun v wy=>wy=(w3.setCell ⟨K.tb,i * 9+8,none⟩ (.int .i64 (pn:Int))).drew)
  case first =>
   go_region
   all_goals (go_wp2_with fail;go_meet)
   all_goals rfl
  case rest =>
   subst hcut;clear x2m3 x2t8 x2z8 x2l;generalize (w3.setCell ⟨K.tb,i * 9+8,none⟩ (.int .i64 (pn:Int))).drew=w4 at *;have x3g:=HB.out _ k3.out;have x3o0:=zac x3g 0;clear x3g;simp only [tcV,yac,yaa,yab,GMc.setT_T,GMc.setT_L,GMc.setT_ser,GMc.setT_N] at x3o0;have x3m3:=h3.out.cellM 3;have x3t7:=h3.out.cellT hi (k:=7) (by decide);have x3t8:=h3.out.cellT hi (k:=8) (by decide);simp only [tcV,yac,yaa,yab,GMc.setT_T,GMc.setT_L,GMc.setT_ser,GMc.setT_N] at x3m3 x3t7 x3t8;have al:∀ {a:Addr} {v:Value} (o:Obj),w4.cell? a=some v→(w4.alloc o).cell? a=some v:=fun {a v} o hv=>(World.cell?_of_block (w:=w4) (Below.heap_alloc _ _ _ (World.block_lt_of_cell? w4 _ hv))).trans hv;have ym3:=al (.cells #[.int .i64 ((pn:Int))] 2) x3m3;have yt7:=al (.cells #[.int .i64 ((pn:Int))] 2) x3t7;have yt8:=al (.cells #[.int .i64 ((pn:Int))] 2) x3t8;clear al;have LX:LstN K.nb (w4.alloc (.cells #[.int .i64 ((pn:Int))] 2)).drew (.slice (some ⟨w4.heap.size,0,none⟩) 1 1) [(pn:Int)]:=by
    refine ⟨_,1,rfl,yax _,fun z=>(by cases z),fun _=>⟨w4.heap.size,0,_,rfl,?_,heap_alloc_new w4 (.cells #[.int .i64 ((pn:Int))] 2),fun j x hj=>?_⟩⟩
    ·obtain ⟨c,n1,_⟩:=h3.out.num;have:=(yah.1 n1).1;omega
    ·rcases j with _|j
     ·obtain rfl:(pn:Int)=x:=by simpa using hj
      rfl
     ·simp at hj
   have kx:Hid (KeepM K.nb w1 (w4.alloc (.cells #[.int .i64 ((pn:Int))] 2)).drew):=yay (KeepM.alloc k3.out _);have HE:=yay (zbs (r:=⟨true,S.N pn,[(pn:Int)]⟩) ((h3.out.alloc (.cells #[.int .i64 ((pn:Int))] 2)).drew) hi (by first|exact hlen.out|(rw [GMc.setT_T];exact hlen.out)) (by first|exact hat.out|(rw [GMc.setT_T];exact hat.out)) LX);replace LX:=yay LX;go_upto_region 13 with fail
   go_cut [99] (fun v wy=>MDone K (((S.setT i { { S.T i with least:=S.N pn } with place:=(pn:Int) })).setT i (zdw (((S.setT i { { S.T i with least:=S.N pn } with place:=(pn:Int) })).T i) ⟨true,S.N pn,[(pn:Int)]⟩)) w (.returned (.tuple #[])) wy)
   case first =>
    go_region_held3 (fun W'=>W'.cell? ⟨K.mb,3,none⟩=some (.slice (some ⟨K.tb,0,none⟩) K.n K.cap)∧W'.cell? ⟨K.tb,i * 9+7,none⟩=some (.int .i64 (S.N pn))∧W'.cell? ⟨K.tb,i * 9+8,none⟩=some (.int .i64 ((pn:Int))))
     (first|exact ⟨x3m3,x3t7,x3t8⟩|exact ⟨ym3,yt7,yt8⟩|exact zn2 hdd.out hi (by simp only [zdw,GMc.setT_T]) (by simp only [zdw,GMc.setT_T]))
     ((go_at_call 176;refine HE.out.mono ?_;rintro e w' ⟨rfl,hdd⟩;replace hdd:=yay hdd))
    all_goals (go_wp2_with fail;go_meet)
    all_goals exact MDone.of (k0.out.trans kx.out) ⟨rfl,hdd.out⟩
   case rest =>
    replace hcut:=yay hcut
    go_wp2_with fail
    go_end0
    exact hcut.out
theorem zt8 (h:MMem K V S w) (hi:i < K.n) (hlen:(S.T i).ans.length≤100000) (hat:(S.T i).at_≤100000) {ok oa ob oc pc:Int} {j pn:Nat} (hw2:IntKind.i64.wrap (pc - 2)=(j:Int)) (hw1:IntKind.i64.wrap (pc - 1)=(j:Int)+1) (c1:(pc==1)=false) (c2:decide (1 < pc)=true) (hj:(S.T i).list[j]?=some (pn:Int)) (hpn:pn < 64) (c3:(pc==2)=false) (c4:decide (S.N pn < (S.T i).least)=true) (hll:(S.T i).list.length≤j+1) (hk:(ok==6)=false) (hal:zdz (S.N pn) oa ob=true) :
  Calls Try.prog 180 #[.pointer (some ⟨K.mb,0,none⟩),.int .i64 i,.agg #[.int .i64 ok,.int .i64 oa,.int .i64 ob,.int .i64 oc],.int .i64 pc] w (MDone K ((S.setT i { S.T i with least:=S.N pn,place:=(pn:Int) }).setT i (zdw ((S.setT i { S.T i with least:=S.N pn,place:=(pn:Int) }).T i) ⟨true,-1,[]⟩)) w):=by
 have hi':(i:Int) < (K.n:Int):=by omega
 have h0:=h.alloc (.cells #[.int .i64 ok,.int .i64 oa,.int .i64 ob,.int .i64 oc] 45);have k0:KeepM K.nb w (w.alloc (.cells #[.int .i64 ok,.int .i64 oa,.int .i64 ob,.int .i64 oc] 45)):=KeepM.refl.alloc _;have EN:=heap_alloc_new w (.cells #[.int .i64 ok,.int .i64 oa,.int .i64 ob,.int .i64 oc] 45);generalize hM:w.heap.size=M at *;replace hM:=yay hM;replace h:=yay h;go_enter Try.func180,Try.ntmps180
 go_upto_region 1 with fail
 rw [hM.out];generalize w.alloc (.cells #[.int .i64 ok,.int .i64 oa,.int .i64 ob,.int .i64 oc] 45)=w1 at *;have HB:Hid (∀ W,KeepM K.nb w1 W→W.heap[M]?=some (.cells #[.int .i64 ok,.int .i64 oa,.int .i64 ob,.int .i64 oc] 45 (0,0))):=yay fun W k=>k M _ 45 EN (by decide) (by decide) (by decide) (fun z=>by
  obtain ⟨c,n1,_⟩:=h0.num;rw [← z,EN] at n1;simp at n1)
 have kk:Hid (KeepM K.nb w1 w1):=yay KeepM.refl;replace EN:=yay EN;replace h0:=yay h0;replace k0:=yay k0;obtain ⟨la,lc,hvl,hlc,_,hlq⟩:=h0.out.vls i hi;replace hlen:=yay hlen;replace hat:=yay hat;have hjl:=(yai.1 hj).1;obtain ⟨lb,lo,lcs,rfl,hlb,hlh,hlx⟩:=hlq (by intro q;rw [q] at hjl;simp at hjl);have hlv:=hlx j _ hj;have HL:Hid (∀ W,KeepM K.nb w1 W→W.cell? ⟨lb,lo+j,none⟩=some (.int .i64 (pn:Int))):=yay fun W k=>(zac (k lb _ 2 hlh (by decide) (by decide) (by decide) hlb) _).trans hlv;obtain ⟨ln,hln⟩:∃ n,(S.T i).list.length=n:=⟨_,rfl⟩;rw [hln] at hjl hvl hlc;have hjl':(j:Int) < (ln:Int):=by omega
 have hpn':(pn:Int) < 64:=by omega
 clear hlx hlv hlq hlh;have c5:decide ((j:Int)+1 < (ln:Int))=false:=decide_eq_false (by have:=hll;omega);have x0m2:=h0.out.cellM 2;have x0m3:=h0.out.cellM 3;have x0t5:=h0.out.cellT hi (k:=5) (by decide);simp only [tcV,yac,yaa,yab,GMc.setT_T,GMc.setT_L,GMc.setT_ser,GMc.setT_N] at x0m2 x0m3 x0t5;rw [hvl] at x0t5;have x0n:=h0.out.cellN hpn;have x0l:=HL.out _ KeepM.refl;have c0:((ln:Int)==0)=false:=by simp;omega
 replace hvl:=yay hvl;replace hlc:=yay hlc;replace hj:=yay hj;replace hln:=yay hln;replace hll:=yay hll;replace hpn:=yay hpn;have h1:=yay h0.out.drew;have k1:Hid (KeepM K.nb w1 w1.drew):=yay kk.out;go_upto_region 7 with fail
 go_cut [9] (fun v wy=>v = .int .i64 (S.N pn)∧wy=w1.drew)
 case first =>
  go_region
  all_goals (go_wp2_with fail;go_meet)
  all_goals exact ⟨rfl,rfl⟩
 case rest =>
  obtain ⟨rfl,rfl⟩:=hcut;clear x0m2 x0m3 x0t5 x0n x0l;generalize w1.drew=w2 at *;have x1m3:=h1.out.cellM 3;have x1t7:=h1.out.cellT hi (k:=7) (by decide);simp only [tcV,yac,yaa,yab,GMc.setT_T,GMc.setT_L,GMc.setT_ser,GMc.setT_N] at x1m3 x1t7;have x1z7:=h1.out.trow.free (i * 9+7);obtain ⟨V2,h2,k2⟩:=h1.out.setLeast hi (rfl) (S.N pn);replace k2:KeepM K.nb w1 (w2.setCell ⟨K.tb,i * 9+7,none⟩ (.int .i64 (S.N pn))):=k1.out.trans k2;replace h2:=yay h2;replace k2:=yay k2;go_upto_region 10 with fail
  clear x1m3 x1t7 x1z7;generalize w2.setCell ⟨K.tb,i * 9+7,none⟩ (.int .i64 (S.N pn))=w3 at *;have x2m3:=h2.out.cellM 3;have x2t8:=h2.out.cellT hi (k:=8) (by decide);simp only [tcV,yac,yaa,yab,GMc.setT_T,GMc.setT_L,GMc.setT_ser,GMc.setT_N] at x2m3 x2t8;have x2z8:=h2.out.trow.free (i * 9+8);have x2l:=HL.out _ k2.out;obtain ⟨V3,h3,k3⟩:=h2.out.setPlace hi (GMc.setT_T _ _ _) (pn:Int);rw [GMc.setT_setT] at h3;replace h3:=h3.drew;replace k3:KeepM K.nb w1 ((w3.setCell ⟨K.tb,i * 9+8,none⟩ (.int .i64 (pn:Int))).drew):=k2.out.trans k3;replace h3:=yay h3;replace k3:=yay k3
  go_cut [80] (fun v wy=>wy=(w3.setCell ⟨K.tb,i * 9+8,none⟩ (.int .i64 (pn:Int))).drew)
  case first =>
   go_region
   all_goals (go_wp2_with fail;go_meet)
   all_goals rfl
  case rest =>
   subst hcut;clear x2m3 x2t8 x2z8 x2l;generalize (w3.setCell ⟨K.tb,i * 9+8,none⟩ (.int .i64 (pn:Int))).drew=w4 at *;have x3m3:=h3.out.cellM 3;have x3t7:=h3.out.cellT hi (k:=7) (by decide);have x3g:=HB.out _ k3.out;have x3o0:=zac x3g 0;have x3o1:=zac x3g 1;have x3o2:=zac x3g 2;clear x3g;simp only [tcV,yac,yaa,yab,GMc.setT_T,GMc.setT_L,GMc.setT_ser,GMc.setT_N] at x3m3 x3t7 x3o0 x3o1 x3o2;have x9m3:w4.drew.cell? ⟨K.mb,3,none⟩=some (.slice (some ⟨K.tb,0,none⟩) K.n K.cap):=x3m3;have HE:=yay (zbs (r:=⟨true,-1,[]⟩) (h3.out.drew) hi (by first|exact hlen.out|(rw [GMc.setT_T];exact hlen.out)) (by first|exact hat.out|(rw [GMc.setT_T];exact hat.out)) (LstN.nil _ _));go_upto_region 14 with fail
   go_cut [10] (fun v wy=>v = .bool true∧wy=w4.drew)
   case first =>
    go_region_held3 (fun W'=>W'.cell? ⟨K.mb,3,none⟩=some (.slice (some ⟨K.tb,0,none⟩) K.n K.cap)∧W'.cell? ⟨K.tb,i * 9+7,none⟩=some (.int .i64 (S.N pn))∧W'.cell? ⟨M,1,none⟩=some (.int .i64 oa)∧W'.cell? ⟨M,2,none⟩=some (.int .i64 ob))
     (exact ⟨x3m3,x3t7,x3o1,x3o2⟩)
     ((go_at_call 191;refine (zd5 _).mono ?_;rintro e w' ⟨rfl,rfl⟩;rw [hal]))
    all_goals (go_wp2_with fail;go_meet)
    all_goals exact ⟨rfl,rfl⟩
   case rest =>
    obtain ⟨rfl,rfl⟩:=hcut;have kx:Hid (KeepM K.nb w1 w4.drew):=yay k3.out;generalize w4.drew=wd at *
    go_wp2_with (go_at_call 176;refine HE.out.mono ?_;rintro e w' ⟨rfl,hdd⟩;replace hdd:=yay hdd)
    go_end0
    exact MDone.of (k0.out.trans kx.out) ⟨rfl,hdd.out⟩
theorem zt7 (h:MMem K V S w) (hi:i < K.n) (hlen:(S.T i).ans.length≤100000) (hat:(S.T i).at_≤100000) {ok oa ob oc pc:Int} {j pn:Nat} (hw2:IntKind.i64.wrap (pc - 2)=(j:Int)) (hw1:IntKind.i64.wrap (pc - 1)=(j:Int)+1) (c1:(pc==1)=false) (c2:decide (1 < pc)=true) (hj:(S.T i).list[j]?=some (pn:Int)) (hpn:pn < 64) (c3:(pc==2)=false) (c4:decide (S.N pn < (S.T i).least)=true) (hll:(S.T i).list.length≤j+1) (hk:(ok==6)=false) (hal:zdz (S.N pn) oa ob=false) :
  Calls Try.prog 180 #[.pointer (some ⟨K.mb,0,none⟩),.int .i64 i,.agg #[.int .i64 ok,.int .i64 oa,.int .i64 ob,.int .i64 oc],.int .i64 pc] w (MDone K ((S.setT i { S.T i with least:=S.N pn,place:=(pn:Int) }).setT i (zdw ((S.setT i { S.T i with least:=S.N pn,place:=(pn:Int) }).T i) ⟨false,(pn:Int),[]⟩)) w):=by
 have hi':(i:Int) < (K.n:Int):=by omega
 have h0:=h.alloc (.cells #[.int .i64 ok,.int .i64 oa,.int .i64 ob,.int .i64 oc] 45);have k0:KeepM K.nb w (w.alloc (.cells #[.int .i64 ok,.int .i64 oa,.int .i64 ob,.int .i64 oc] 45)):=KeepM.refl.alloc _;have EN:=heap_alloc_new w (.cells #[.int .i64 ok,.int .i64 oa,.int .i64 ob,.int .i64 oc] 45);generalize hM:w.heap.size=M at *;replace hM:=yay hM;replace h:=yay h;go_enter Try.func180,Try.ntmps180
 go_upto_region 1 with fail
 rw [hM.out];generalize w.alloc (.cells #[.int .i64 ok,.int .i64 oa,.int .i64 ob,.int .i64 oc] 45)=w1 at *;have HB:Hid (∀ W,KeepM K.nb w1 W→W.heap[M]?=some (.cells #[.int .i64 ok,.int .i64 oa,.int .i64 ob,.int .i64 oc] 45 (0,0))):=yay fun W k=>k M _ 45 EN (by decide) (by decide) (by decide) (fun z=>by
  obtain ⟨c,n1,_⟩:=h0.num;rw [← z,EN] at n1;simp at n1)
 have kk:Hid (KeepM K.nb w1 w1):=yay KeepM.refl;replace EN:=yay EN;replace h0:=yay h0;replace k0:=yay k0;obtain ⟨la,lc,hvl,hlc,_,hlq⟩:=h0.out.vls i hi;replace hlen:=yay hlen;replace hat:=yay hat;have hjl:=(yai.1 hj).1;obtain ⟨lb,lo,lcs,rfl,hlb,hlh,hlx⟩:=hlq (by intro q;rw [q] at hjl;simp at hjl);have hlv:=hlx j _ hj;have HL:Hid (∀ W,KeepM K.nb w1 W→W.cell? ⟨lb,lo+j,none⟩=some (.int .i64 (pn:Int))):=yay fun W k=>(zac (k lb _ 2 hlh (by decide) (by decide) (by decide) hlb) _).trans hlv;obtain ⟨ln,hln⟩:∃ n,(S.T i).list.length=n:=⟨_,rfl⟩;rw [hln] at hjl hvl hlc;have hjl':(j:Int) < (ln:Int):=by omega
 have hpn':(pn:Int) < 64:=by omega
 clear hlx hlv hlq hlh;have c5:decide ((j:Int)+1 < (ln:Int))=false:=decide_eq_false (by have:=hll;omega);have x0m2:=h0.out.cellM 2;have x0m3:=h0.out.cellM 3;have x0t5:=h0.out.cellT hi (k:=5) (by decide);simp only [tcV,yac,yaa,yab,GMc.setT_T,GMc.setT_L,GMc.setT_ser,GMc.setT_N] at x0m2 x0m3 x0t5;rw [hvl] at x0t5;have x0n:=h0.out.cellN hpn;have x0l:=HL.out _ KeepM.refl;have c0:((ln:Int)==0)=false:=by simp;omega
 replace hvl:=yay hvl;replace hlc:=yay hlc;replace hj:=yay hj;replace hln:=yay hln;replace hll:=yay hll;replace hpn:=yay hpn;have h1:=yay h0.out.drew;have k1:Hid (KeepM K.nb w1 w1.drew):=yay kk.out;go_upto_region 7 with fail
 go_cut [9] (fun v wy=>v = .int .i64 (S.N pn)∧wy=w1.drew)
 case first =>
  go_region
  all_goals (go_wp2_with fail;go_meet)
  all_goals exact ⟨rfl,rfl⟩
 case rest =>
  obtain ⟨rfl,rfl⟩:=hcut;clear x0m2 x0m3 x0t5 x0n x0l;generalize w1.drew=w2 at *;have x1m3:=h1.out.cellM 3;have x1t7:=h1.out.cellT hi (k:=7) (by decide);simp only [tcV,yac,yaa,yab,GMc.setT_T,GMc.setT_L,GMc.setT_ser,GMc.setT_N] at x1m3 x1t7;have x1z7:=h1.out.trow.free (i * 9+7);obtain ⟨V2,h2,k2⟩:=h1.out.setLeast hi (rfl) (S.N pn);replace k2:KeepM K.nb w1 (w2.setCell ⟨K.tb,i * 9+7,none⟩ (.int .i64 (S.N pn))):=k1.out.trans k2;replace h2:=yay h2;replace k2:=yay k2;go_upto_region 10 with fail
  clear x1m3 x1t7 x1z7;generalize w2.setCell ⟨K.tb,i * 9+7,none⟩ (.int .i64 (S.N pn))=w3 at *;have x2m3:=h2.out.cellM 3;have x2t8:=h2.out.cellT hi (k:=8) (by decide);simp only [tcV,yac,yaa,yab,GMc.setT_T,GMc.setT_L,GMc.setT_ser,GMc.setT_N] at x2m3 x2t8;have x2z8:=h2.out.trow.free (i * 9+8);have x2l:=HL.out _ k2.out;obtain ⟨V3,h3,k3⟩:=h2.out.setPlace hi (GMc.setT_T _ _ _) (pn:Int);rw [GMc.setT_setT] at h3;replace h3:=h3.drew;replace k3:KeepM K.nb w1 ((w3.setCell ⟨K.tb,i * 9+8,none⟩ (.int .i64 (pn:Int))).drew):=k2.out.trans k3;replace h3:=yay h3;replace k3:=yay k3
  go_cut [80] (fun v wy=>wy=(w3.setCell ⟨K.tb,i * 9+8,none⟩ (.int .i64 (pn:Int))).drew)
  case first =>
   go_region
   all_goals (go_wp2_with fail;go_meet)
   all_goals rfl
  case rest =>
   subst hcut;clear x2m3 x2t8 x2z8 x2l;generalize (w3.setCell ⟨K.tb,i * 9+8,none⟩ (.int .i64 (pn:Int))).drew=w4 at *;have x3m3:=h3.out.cellM 3;have x3t7:=h3.out.cellT hi (k:=7) (by decide);have x3g:=HB.out _ k3.out;have x3o0:=zac x3g 0;have x3o1:=zac x3g 1;have x3o2:=zac x3g 2;clear x3g;simp only [tcV,yac,yaa,yab,GMc.setT_T,GMc.setT_L,GMc.setT_ser,GMc.setT_N] at x3m3 x3t7 x3o0 x3o1 x3o2;have x9m3:w4.drew.cell? ⟨K.mb,3,none⟩=some (.slice (some ⟨K.tb,0,none⟩) K.n K.cap):=x3m3;have HE:=yay (zbs (r:=⟨false,(pn:Int),[]⟩) (h3.out.drew) hi (by first|exact hlen.out|(rw [GMc.setT_T];exact hlen.out)) (by first|exact hat.out|(rw [GMc.setT_T];exact hat.out)) (LstN.nil _ _));go_upto_region 14 with fail
   go_cut [10] (fun v wy=>v = .bool false∧wy=w4.drew)
   case first =>
    go_region_held3 (fun W'=>W'.cell? ⟨K.mb,3,none⟩=some (.slice (some ⟨K.tb,0,none⟩) K.n K.cap)∧W'.cell? ⟨K.tb,i * 9+7,none⟩=some (.int .i64 (S.N pn))∧W'.cell? ⟨M,1,none⟩=some (.int .i64 oa)∧W'.cell? ⟨M,2,none⟩=some (.int .i64 ob))
     (exact ⟨x3m3,x3t7,x3o1,x3o2⟩)
     ((go_at_call 191;refine (zd5 _).mono ?_;rintro e w' ⟨rfl,rfl⟩;rw [hal]))
    all_goals (go_wp2_with fail;go_meet)
    all_goals exact ⟨rfl,rfl⟩
   case rest =>
    obtain ⟨rfl,rfl⟩:=hcut;have kx:Hid (KeepM K.nb w1 w4.drew):=yay k3.out;have x9t8:=h3.out.drew.cellT hi (k:=8) (by decide);simp only [tcV,yac,yaa,yab,GMc.setT_T] at x9t8;generalize w4.drew=wd at *
    go_wp2_with (go_at_call 176;refine HE.out.mono ?_;rintro e w' ⟨rfl,hdd⟩;replace hdd:=yay hdd)
    go_end0
    exact MDone.of (k0.out.trans kx.out) ⟨rfl,hdd.out⟩
theorem zwq (h:MMem K V S w) (hi:i < K.n) (hlen:(S.T i).ans.length≤100000) (hat:(S.T i).at_≤100000) {ok oa ob oc pc:Int} {j pn:Nat} (hw2:IntKind.i64.wrap (pc - 2)=(j:Int)) (hw1:IntKind.i64.wrap (pc - 1)=(j:Int)+1) (c1:(pc==1)=false) (c2:decide (1 < pc)=true) (hj:(S.T i).list[j]?=some (pn:Int)) (hpn:pn < 64) (c3:(pc==2)=false) (c4:decide (S.N pn < (S.T i).least)=false) (hll:j+1 < (S.T i).list.length) :
  Calls Try.prog 180 #[.pointer (some ⟨K.mb,0,none⟩),.int .i64 i,.agg #[.int .i64 ok,.int .i64 oa,.int .i64 ob,.int .i64 oc],.int .i64 pc] w (MDone K (S) w):=by
 have hi':(i:Int) < (K.n:Int):=by omega
 have h0:=h.alloc (.cells #[.int .i64 ok,.int .i64 oa,.int .i64 ob,.int .i64 oc] 45);have k0:KeepM K.nb w (w.alloc (.cells #[.int .i64 ok,.int .i64 oa,.int .i64 ob,.int .i64 oc] 45)):=KeepM.refl.alloc _;have EN:=heap_alloc_new w (.cells #[.int .i64 ok,.int .i64 oa,.int .i64 ob,.int .i64 oc] 45);generalize hM:w.heap.size=M at *;replace hM:=yay hM;replace h:=yay h;go_enter Try.func180,Try.ntmps180
 go_upto_region 1 with fail
 rw [hM.out];generalize w.alloc (.cells #[.int .i64 ok,.int .i64 oa,.int .i64 ob,.int .i64 oc] 45)=w1 at *;have HB:Hid (∀ W,KeepM K.nb w1 W→W.heap[M]?=some (.cells #[.int .i64 ok,.int .i64 oa,.int .i64 ob,.int .i64 oc] 45 (0,0))):=yay fun W k=>k M _ 45 EN (by decide) (by decide) (by decide) (fun z=>by
  obtain ⟨c,n1,_⟩:=h0.num;rw [← z,EN] at n1;simp at n1)
 have kk:Hid (KeepM K.nb w1 w1):=yay KeepM.refl;replace EN:=yay EN;replace h0:=yay h0;replace k0:=yay k0;obtain ⟨la,lc,hvl,hlc,_,hlq⟩:=h0.out.vls i hi;replace hlen:=yay hlen;replace hat:=yay hat;have hjl:=(yai.1 hj).1;obtain ⟨lb,lo,lcs,rfl,hlb,hlh,hlx⟩:=hlq (by intro q;rw [q] at hjl;simp at hjl);have hlv:=hlx j _ hj;have HL:Hid (∀ W,KeepM K.nb w1 W→W.cell? ⟨lb,lo+j,none⟩=some (.int .i64 (pn:Int))):=yay fun W k=>(zac (k lb _ 2 hlh (by decide) (by decide) (by decide) hlb) _).trans hlv;obtain ⟨ln,hln⟩:∃ n,(S.T i).list.length=n:=⟨_,rfl⟩;rw [hln] at hjl hvl hlc;have hjl':(j:Int) < (ln:Int):=by omega
 have hpn':(pn:Int) < 64:=by omega
 clear hlx hlv hlq hlh;have c5:decide ((j:Int)+1 < (ln:Int))=true:=decide_eq_true (by have:=hll;omega);have x0m2:=h0.out.cellM 2;have x0m3:=h0.out.cellM 3;have x0t5:=h0.out.cellT hi (k:=5) (by decide);simp only [tcV,yac,yaa,yab,GMc.setT_T,GMc.setT_L,GMc.setT_ser,GMc.setT_N] at x0m2 x0m3 x0t5;rw [hvl] at x0t5;have x0n:=h0.out.cellN hpn;have x0l:=HL.out _ KeepM.refl;have c0:((ln:Int)==0)=false:=by simp;omega
 replace hvl:=yay hvl;replace hlc:=yay hlc;replace hj:=yay hj;replace hln:=yay hln;replace hll:=yay hll;replace hpn:=yay hpn;have h1:=yay h0.out.drew;have k1:Hid (KeepM K.nb w1 w1.drew):=yay kk.out;go_upto_region 7 with fail
 go_cut [9] (fun v wy=>v = .int .i64 (S.N pn)∧wy=w1.drew)
 case first =>
  go_region
  all_goals (go_wp2_with fail;go_meet)
  all_goals exact ⟨rfl,rfl⟩
 case rest =>
  obtain ⟨rfl,rfl⟩:=hcut;clear x0m2 x0m3 x0t5 x0n x0l;generalize w1.drew=w2 at *;have x1m3:=h1.out.cellM 3;have x1t7:=h1.out.cellT hi (k:=7) (by decide);simp only [tcV,yac,yaa,yab,GMc.setT_T,GMc.setT_L,GMc.setT_ser,GMc.setT_N] at x1m3 x1t7
  go_wp2_with fail
  go_end0
  exact ⟨rfl,_,h1.out,k0.out.trans k1.out⟩
theorem zt3 (h:MMem K V S w) (hi:i < K.n) (hlen:(S.T i).ans.length≤100000) (hat:(S.T i).at_≤100000) {ok oa ob oc pc:Int} {j pn:Nat} (hw2:IntKind.i64.wrap (pc - 2)=(j:Int)) (hw1:IntKind.i64.wrap (pc - 1)=(j:Int)+1) (c1:(pc==1)=false) (c2:decide (1 < pc)=true) (hj:(S.T i).list[j]?=some (pn:Int)) (hpn:pn < 64) (c3:(pc==2)=false) (c4:decide (S.N pn < (S.T i).least)=false) (hll:(S.T i).list.length≤j+1) (hk:ok=6) :
  Calls Try.prog 180 #[.pointer (some ⟨K.mb,0,none⟩),.int .i64 i,.agg #[.int .i64 ok,.int .i64 oa,.int .i64 ob,.int .i64 oc],.int .i64 pc] w (MDone K (S.setT i (zdw (S.T i) ⟨true,(S.T i).least,[(S.T i).place]⟩)) w):=by
 have hi':(i:Int) < (K.n:Int):=by omega
 subst hk;have h0:=h.alloc (.cells #[.int .i64 6,.int .i64 oa,.int .i64 ob,.int .i64 oc] 45);have k0:KeepM K.nb w (w.alloc (.cells #[.int .i64 6,.int .i64 oa,.int .i64 ob,.int .i64 oc] 45)):=KeepM.refl.alloc _;have EN:=heap_alloc_new w (.cells #[.int .i64 6,.int .i64 oa,.int .i64 ob,.int .i64 oc] 45);generalize hM:w.heap.size=M at *;replace hM:=yay hM;replace h:=yay h;go_enter Try.func180,Try.ntmps180
 go_upto_region 1 with fail
 rw [hM.out];generalize w.alloc (.cells #[.int .i64 6,.int .i64 oa,.int .i64 ob,.int .i64 oc] 45)=w1 at *;have HB:Hid (∀ W,KeepM K.nb w1 W→W.heap[M]?=some (.cells #[.int .i64 6,.int .i64 oa,.int .i64 ob,.int .i64 oc] 45 (0,0))):=yay fun W k=>k M _ 45 EN (by decide) (by decide) (by decide) (fun z=>by
  obtain ⟨c,n1,_⟩:=h0.num;rw [← z,EN] at n1;simp at n1)
 have kk:Hid (KeepM K.nb w1 w1):=yay KeepM.refl;replace EN:=yay EN;replace h0:=yay h0;replace k0:=yay k0;obtain ⟨la,lc,hvl,hlc,_,hlq⟩:=h0.out.vls i hi;replace hlen:=yay hlen;replace hat:=yay hat;have hjl:=(yai.1 hj).1;obtain ⟨lb,lo,lcs,rfl,hlb,hlh,hlx⟩:=hlq (by intro q;rw [q] at hjl;simp at hjl);have hlv:=hlx j _ hj;have HL:Hid (∀ W,KeepM K.nb w1 W→W.cell? ⟨lb,lo+j,none⟩=some (.int .i64 (pn:Int))):=yay fun W k=>(zac (k lb _ 2 hlh (by decide) (by decide) (by decide) hlb) _).trans hlv;obtain ⟨ln,hln⟩:∃ n,(S.T i).list.length=n:=⟨_,rfl⟩;rw [hln] at hjl hvl hlc;have hjl':(j:Int) < (ln:Int):=by omega
 have hpn':(pn:Int) < 64:=by omega
 clear hlx hlv hlq hlh;have c5:decide ((j:Int)+1 < (ln:Int))=false:=decide_eq_false (by have:=hll;omega);have x0m2:=h0.out.cellM 2;have x0m3:=h0.out.cellM 3;have x0t5:=h0.out.cellT hi (k:=5) (by decide);simp only [tcV,yac,yaa,yab,GMc.setT_T,GMc.setT_L,GMc.setT_ser,GMc.setT_N] at x0m2 x0m3 x0t5;rw [hvl] at x0t5;have x0n:=h0.out.cellN hpn;have x0l:=HL.out _ KeepM.refl;have c0:((ln:Int)==0)=false:=by simp;omega
 replace hvl:=yay hvl;replace hlc:=yay hlc;replace hj:=yay hj;replace hln:=yay hln;replace hll:=yay hll;replace hpn:=yay hpn;have h1:=yay h0.out.drew;have k1:Hid (KeepM K.nb w1 w1.drew):=yay kk.out;go_upto_region 7 with fail
 go_cut [9] (fun v wy=>v = .int .i64 (S.N pn)∧wy=w1.drew)
 case first =>
  go_region
  all_goals (go_wp2_with fail;go_meet)
  all_goals exact ⟨rfl,rfl⟩
 case rest =>
  obtain ⟨rfl,rfl⟩:=hcut;clear x0m2 x0m3 x0t5 x0n x0l;generalize w1.drew=w2 at *;have x1m3:=h1.out.cellM 3;have x1t7:=h1.out.cellT hi (k:=7) (by decide);simp only [tcV,yac,yaa,yab,GMc.setT_T,GMc.setT_L,GMc.setT_ser,GMc.setT_N] at x1m3 x1t7;clear x1m3 x1t7;have x1g:=HB.out _ k1.out;have x1o0:=zac x1g 0;clear x1g;simp only [tcV,yac,yaa,yab,GMc.setT_T,GMc.setT_L,GMc.setT_ser,GMc.setT_N] at x1o0;have x1m3:=h1.out.cellM 3;have x1t7:=h1.out.cellT hi (k:=7) (by decide);have x1t8:=h1.out.cellT hi (k:=8) (by decide);simp only [tcV,yac,yaa,yab,GMc.setT_T,GMc.setT_L,GMc.setT_ser,GMc.setT_N] at x1m3 x1t7 x1t8;have al:∀ {a:Addr} {v:Value} (o:Obj),w2.cell? a=some v→(w2.alloc o).cell? a=some v:=fun {a v} o hv=>(World.cell?_of_block (w:=w2) (Below.heap_alloc _ _ _ (World.block_lt_of_cell? w2 _ hv))).trans hv;have ym3:=al (.cells #[.int .i64 ((S.T i).place)] 2) x1m3;have yt7:=al (.cells #[.int .i64 ((S.T i).place)] 2) x1t7;have yt8:=al (.cells #[.int .i64 ((S.T i).place)] 2) x1t8;clear al;have LX:LstN K.nb (w2.alloc (.cells #[.int .i64 ((S.T i).place)] 2)).drew (.slice (some ⟨w2.heap.size,0,none⟩) 1 1) [(S.T i).place]:=by
   refine ⟨_,1,rfl,yax _,fun z=>(by cases z),fun _=>⟨w2.heap.size,0,_,rfl,?_,heap_alloc_new w2 (.cells #[.int .i64 ((S.T i).place)] 2),fun j x hj=>?_⟩⟩
   ·obtain ⟨c,n1,_⟩:=h1.out.num;have:=(yah.1 n1).1;omega
   ·rcases j with _|j
    ·obtain rfl:(S.T i).place=x:=by simpa using hj
     rfl
    ·simp at hj
  have kx:Hid (KeepM K.nb w1 (w2.alloc (.cells #[.int .i64 ((S.T i).place)] 2)).drew):=yay (KeepM.alloc k1.out _);have HE:=yay (zbs (r:=⟨true,(S.T i).least,[(S.T i).place]⟩) ((h1.out.alloc (.cells #[.int .i64 ((S.T i).place)] 2)).drew) hi (by first|exact hlen.out|(rw [GMc.setT_T];exact hlen.out)) (by first|exact hat.out|(rw [GMc.setT_T];exact hat.out)) LX);replace LX:=yay LX;go_upto_region 13 with fail
  go_cut [99] (fun v wy=>MDone K ((S).setT i (zdw ((S).T i) ⟨true,(S.T i).least,[(S.T i).place]⟩)) w (.returned (.tuple #[])) wy)
  case first =>
   go_region_held3 (fun W'=>W'.cell? ⟨K.mb,3,none⟩=some (.slice (some ⟨K.tb,0,none⟩) K.n K.cap)∧W'.cell? ⟨K.tb,i * 9+7,none⟩=some (.int .i64 ((S.T i).least))∧W'.cell? ⟨K.tb,i * 9+8,none⟩=some (.int .i64 ((S.T i).place)))
    (first|exact ⟨x1m3,x1t7,x1t8⟩|exact ⟨ym3,yt7,yt8⟩|exact zn2 hdd.out hi (by simp only [zdw,GMc.setT_T]) (by simp only [zdw,GMc.setT_T]))
    ((go_at_call 176;refine HE.out.mono ?_;rintro e w' ⟨rfl,hdd⟩;replace hdd:=yay hdd))
   all_goals (go_wp2_with fail;go_meet)
   all_goals exact MDone.of (k0.out.trans kx.out) ⟨rfl,hdd.out⟩
  case rest =>
   replace hcut:=yay hcut
   go_wp2_with fail
   go_end0
   exact hcut.out
theorem zt5 (h:MMem K V S w) (hi:i < K.n) (hlen:(S.T i).ans.length≤100000) (hat:(S.T i).at_≤100000) {ok oa ob oc pc:Int} {j pn:Nat} (hw2:IntKind.i64.wrap (pc - 2)=(j:Int)) (hw1:IntKind.i64.wrap (pc - 1)=(j:Int)+1) (c1:(pc==1)=false) (c2:decide (1 < pc)=true) (hj:(S.T i).list[j]?=some (pn:Int)) (hpn:pn < 64) (c3:(pc==2)=false) (c4:decide (S.N pn < (S.T i).least)=false) (hll:(S.T i).list.length≤j+1) (hk:(ok==6)=false) (hal:zdz ((S.T i).least) oa ob=true) :
  Calls Try.prog 180 #[.pointer (some ⟨K.mb,0,none⟩),.int .i64 i,.agg #[.int .i64 ok,.int .i64 oa,.int .i64 ob,.int .i64 oc],.int .i64 pc] w (MDone K (S.setT i (zdw (S.T i) ⟨true,-1,[]⟩)) w):=by
 have hi':(i:Int) < (K.n:Int):=by omega
 have h0:=h.alloc (.cells #[.int .i64 ok,.int .i64 oa,.int .i64 ob,.int .i64 oc] 45);have k0:KeepM K.nb w (w.alloc (.cells #[.int .i64 ok,.int .i64 oa,.int .i64 ob,.int .i64 oc] 45)):=KeepM.refl.alloc _;have EN:=heap_alloc_new w (.cells #[.int .i64 ok,.int .i64 oa,.int .i64 ob,.int .i64 oc] 45);generalize hM:w.heap.size=M at *;replace hM:=yay hM;replace h:=yay h;go_enter Try.func180,Try.ntmps180
 go_upto_region 1 with fail
 rw [hM.out];generalize w.alloc (.cells #[.int .i64 ok,.int .i64 oa,.int .i64 ob,.int .i64 oc] 45)=w1 at *;have HB:Hid (∀ W,KeepM K.nb w1 W→W.heap[M]?=some (.cells #[.int .i64 ok,.int .i64 oa,.int .i64 ob,.int .i64 oc] 45 (0,0))):=yay fun W k=>k M _ 45 EN (by decide) (by decide) (by decide) (fun z=>by
  obtain ⟨c,n1,_⟩:=h0.num;rw [← z,EN] at n1;simp at n1)
 have kk:Hid (KeepM K.nb w1 w1):=yay KeepM.refl;replace EN:=yay EN;replace h0:=yay h0;replace k0:=yay k0;obtain ⟨la,lc,hvl,hlc,_,hlq⟩:=h0.out.vls i hi;replace hlen:=yay hlen;replace hat:=yay hat;have hjl:=(yai.1 hj).1;obtain ⟨lb,lo,lcs,rfl,hlb,hlh,hlx⟩:=hlq (by intro q;rw [q] at hjl;simp at hjl);have hlv:=hlx j _ hj;have HL:Hid (∀ W,KeepM K.nb w1 W→W.cell? ⟨lb,lo+j,none⟩=some (.int .i64 (pn:Int))):=yay fun W k=>(zac (k lb _ 2 hlh (by decide) (by decide) (by decide) hlb) _).trans hlv;obtain ⟨ln,hln⟩:∃ n,(S.T i).list.length=n:=⟨_,rfl⟩;rw [hln] at hjl hvl hlc;have hjl':(j:Int) < (ln:Int):=by omega
 have hpn':(pn:Int) < 64:=by omega
 clear hlx hlv hlq hlh;have c5:decide ((j:Int)+1 < (ln:Int))=false:=decide_eq_false (by have:=hll;omega);have x0m2:=h0.out.cellM 2;have x0m3:=h0.out.cellM 3;have x0t5:=h0.out.cellT hi (k:=5) (by decide);simp only [tcV,yac,yaa,yab,GMc.setT_T,GMc.setT_L,GMc.setT_ser,GMc.setT_N] at x0m2 x0m3 x0t5;rw [hvl] at x0t5;have x0n:=h0.out.cellN hpn;have x0l:=HL.out _ KeepM.refl;have c0:((ln:Int)==0)=false:=by simp;omega
 replace hvl:=yay hvl;replace hlc:=yay hlc;replace hj:=yay hj;replace hln:=yay hln;replace hll:=yay hll;replace hpn:=yay hpn;have h1:=yay h0.out.drew;have k1:Hid (KeepM K.nb w1 w1.drew):=yay kk.out;go_upto_region 7 with fail
 go_cut [9] (fun v wy=>v = .int .i64 (S.N pn)∧wy=w1.drew)
 case first =>
  go_region
  all_goals (go_wp2_with fail;go_meet)
  all_goals exact ⟨rfl,rfl⟩
 case rest =>
  obtain ⟨rfl,rfl⟩:=hcut;clear x0m2 x0m3 x0t5 x0n x0l;generalize w1.drew=w2 at *;have x1m3:=h1.out.cellM 3;have x1t7:=h1.out.cellT hi (k:=7) (by decide);simp only [tcV,yac,yaa,yab,GMc.setT_T,GMc.setT_L,GMc.setT_ser,GMc.setT_N] at x1m3 x1t7;clear x1m3 x1t7;have x1m3:=h1.out.cellM 3;have x1t7:=h1.out.cellT hi (k:=7) (by decide);have x1g:=HB.out _ k1.out;have x1o0:=zac x1g 0;have x1o1:=zac x1g 1;have x1o2:=zac x1g 2;clear x1g;simp only [tcV,yac,yaa,yab,GMc.setT_T,GMc.setT_L,GMc.setT_ser,GMc.setT_N] at x1m3 x1t7 x1o0 x1o1 x1o2;have x9m3:w2.drew.cell? ⟨K.mb,3,none⟩=some (.slice (some ⟨K.tb,0,none⟩) K.n K.cap):=x1m3;have HE:=yay (zbs (r:=⟨true,-1,[]⟩) (h1.out.drew) hi (by first|exact hlen.out|(rw [GMc.setT_T];exact hlen.out)) (by first|exact hat.out|(rw [GMc.setT_T];exact hat.out)) (LstN.nil _ _));go_upto_region 14 with fail
  go_cut [10] (fun v wy=>v = .bool true∧wy=w2.drew)
  case first =>
   go_region_held3 (fun W'=>W'.cell? ⟨K.mb,3,none⟩=some (.slice (some ⟨K.tb,0,none⟩) K.n K.cap)∧W'.cell? ⟨K.tb,i * 9+7,none⟩=some (.int .i64 ((S.T i).least))∧W'.cell? ⟨M,1,none⟩=some (.int .i64 oa)∧W'.cell? ⟨M,2,none⟩=some (.int .i64 ob))
    (exact ⟨x1m3,x1t7,x1o1,x1o2⟩)
    ((go_at_call 191;refine (zd5 _).mono ?_;rintro e w' ⟨rfl,rfl⟩;rw [hal]))
   all_goals (go_wp2_with fail;go_meet)
   all_goals exact ⟨rfl,rfl⟩
  case rest =>
   obtain ⟨rfl,rfl⟩:=hcut;have kx:Hid (KeepM K.nb w1 w2.drew):=yay k1.out;generalize w2.drew=wd at *
   go_wp2_with (go_at_call 176;refine HE.out.mono ?_;rintro e w' ⟨rfl,hdd⟩;replace hdd:=yay hdd)
   go_end0
   exact MDone.of (k0.out.trans kx.out) ⟨rfl,hdd.out⟩
theorem zt4 (h:MMem K V S w) (hi:i < K.n) (hlen:(S.T i).ans.length≤100000) (hat:(S.T i).at_≤100000) {ok oa ob oc pc:Int} {j pn:Nat} (hw2:IntKind.i64.wrap (pc - 2)=(j:Int)) (hw1:IntKind.i64.wrap (pc - 1)=(j:Int)+1) (c1:(pc==1)=false) (c2:decide (1 < pc)=true) (hj:(S.T i).list[j]?=some (pn:Int)) (hpn:pn < 64) (c3:(pc==2)=false) (c4:decide (S.N pn < (S.T i).least)=false) (hll:(S.T i).list.length≤j+1) (hk:(ok==6)=false) (hal:zdz ((S.T i).least) oa ob=false) :
  Calls Try.prog 180 #[.pointer (some ⟨K.mb,0,none⟩),.int .i64 i,.agg #[.int .i64 ok,.int .i64 oa,.int .i64 ob,.int .i64 oc],.int .i64 pc] w (MDone K (S.setT i (zdw (S.T i) ⟨false,(S.T i).place,[]⟩)) w):=by
 have hi':(i:Int) < (K.n:Int):=by omega
 have h0:=h.alloc (.cells #[.int .i64 ok,.int .i64 oa,.int .i64 ob,.int .i64 oc] 45);have k0:KeepM K.nb w (w.alloc (.cells #[.int .i64 ok,.int .i64 oa,.int .i64 ob,.int .i64 oc] 45)):=KeepM.refl.alloc _;have EN:=heap_alloc_new w (.cells #[.int .i64 ok,.int .i64 oa,.int .i64 ob,.int .i64 oc] 45);generalize hM:w.heap.size=M at *;replace hM:=yay hM;replace h:=yay h;go_enter Try.func180,Try.ntmps180
 go_upto_region 1 with fail
 rw [hM.out];generalize w.alloc (.cells #[.int .i64 ok,.int .i64 oa,.int .i64 ob,.int .i64 oc] 45)=w1 at *;have HB:Hid (∀ W,KeepM K.nb w1 W→W.heap[M]?=some (.cells #[.int .i64 ok,.int .i64 oa,.int .i64 ob,.int .i64 oc] 45 (0,0))):=yay fun W k=>k M _ 45 EN (by decide) (by decide) (by decide) (fun z=>by
  obtain ⟨c,n1,_⟩:=h0.num;rw [← z,EN] at n1;simp at n1)
 have kk:Hid (KeepM K.nb w1 w1):=yay KeepM.refl;replace EN:=yay EN;replace h0:=yay h0;replace k0:=yay k0;obtain ⟨la,lc,hvl,hlc,_,hlq⟩:=h0.out.vls i hi;replace hlen:=yay hlen;replace hat:=yay hat;have hjl:=(yai.1 hj).1;obtain ⟨lb,lo,lcs,rfl,hlb,hlh,hlx⟩:=hlq (by intro q;rw [q] at hjl;simp at hjl);have hlv:=hlx j _ hj;have HL:Hid (∀ W,KeepM K.nb w1 W→W.cell? ⟨lb,lo+j,none⟩=some (.int .i64 (pn:Int))):=yay fun W k=>(zac (k lb _ 2 hlh (by decide) (by decide) (by decide) hlb) _).trans hlv;obtain ⟨ln,hln⟩:∃ n,(S.T i).list.length=n:=⟨_,rfl⟩;rw [hln] at hjl hvl hlc;have hjl':(j:Int) < (ln:Int):=by omega
 have hpn':(pn:Int) < 64:=by omega
 clear hlx hlv hlq hlh;have c5:decide ((j:Int)+1 < (ln:Int))=false:=decide_eq_false (by have:=hll;omega);have x0m2:=h0.out.cellM 2;have x0m3:=h0.out.cellM 3;have x0t5:=h0.out.cellT hi (k:=5) (by decide);simp only [tcV,yac,yaa,yab,GMc.setT_T,GMc.setT_L,GMc.setT_ser,GMc.setT_N] at x0m2 x0m3 x0t5;rw [hvl] at x0t5;have x0n:=h0.out.cellN hpn;have x0l:=HL.out _ KeepM.refl;have c0:((ln:Int)==0)=false:=by simp;omega
 replace hvl:=yay hvl;replace hlc:=yay hlc;replace hj:=yay hj;replace hln:=yay hln;replace hll:=yay hll;replace hpn:=yay hpn;have h1:=yay h0.out.drew;have k1:Hid (KeepM K.nb w1 w1.drew):=yay kk.out;go_upto_region 7 with fail
 go_cut [9] (fun v wy=>v = .int .i64 (S.N pn)∧wy=w1.drew)
 case first =>
  go_region
  all_goals (go_wp2_with fail;go_meet)
  all_goals exact ⟨rfl,rfl⟩
 case rest =>
  obtain ⟨rfl,rfl⟩:=hcut;clear x0m2 x0m3 x0t5 x0n x0l;generalize w1.drew=w2 at *;have x1m3:=h1.out.cellM 3;have x1t7:=h1.out.cellT hi (k:=7) (by decide);simp only [tcV,yac,yaa,yab,GMc.setT_T,GMc.setT_L,GMc.setT_ser,GMc.setT_N] at x1m3 x1t7;clear x1m3 x1t7;have x1m3:=h1.out.cellM 3;have x1t7:=h1.out.cellT hi (k:=7) (by decide);have x1g:=HB.out _ k1.out;have x1o0:=zac x1g 0;have x1o1:=zac x1g 1;have x1o2:=zac x1g 2;clear x1g;simp only [tcV,yac,yaa,yab,GMc.setT_T,GMc.setT_L,GMc.setT_ser,GMc.setT_N] at x1m3 x1t7 x1o0 x1o1 x1o2;have x9m3:w2.drew.cell? ⟨K.mb,3,none⟩=some (.slice (some ⟨K.tb,0,none⟩) K.n K.cap):=x1m3;have HE:=yay (zbs (r:=⟨false,(S.T i).place,[]⟩) (h1.out.drew) hi (by first|exact hlen.out|(rw [GMc.setT_T];exact hlen.out)) (by first|exact hat.out|(rw [GMc.setT_T];exact hat.out)) (LstN.nil _ _));go_upto_region 14 with fail
  go_cut [10] (fun v wy=>v = .bool false∧wy=w2.drew)
  case first =>
   go_region_held3 (fun W'=>W'.cell? ⟨K.mb,3,none⟩=some (.slice (some ⟨K.tb,0,none⟩) K.n K.cap)∧W'.cell? ⟨K.tb,i * 9+7,none⟩=some (.int .i64 ((S.T i).least))∧W'.cell? ⟨M,1,none⟩=some (.int .i64 oa)∧W'.cell? ⟨M,2,none⟩=some (.int .i64 ob))
    (exact ⟨x1m3,x1t7,x1o1,x1o2⟩)
    ((go_at_call 191;refine (zd5 _).mono ?_;rintro e w' ⟨rfl,rfl⟩;rw [hal]))
   all_goals (go_wp2_with fail;go_meet)
   all_goals exact ⟨rfl,rfl⟩
  case rest =>
   obtain ⟨rfl,rfl⟩:=hcut;have kx:Hid (KeepM K.nb w1 w2.drew):=yay k1.out;have x9t8:=h1.out.drew.cellT hi (k:=8) (by decide);simp only [tcV,yac,yaa,yab,GMc.setT_T] at x9t8;generalize w2.drew=wd at *
   go_wp2_with (go_at_call 176;refine HE.out.mono ?_;rintro e w' ⟨rfl,hdd⟩;replace hdd:=yay hdd)
   go_end0
   exact MDone.of (k0.out.trans kx.out) ⟨rfl,hdd.out⟩
end
end Go.Proofs.Ytofacoojpgkbiaa
