/-
  A part of a proof. No condition of its own.
-/
import Derived.Test.YtofacoojpgkbiaaCalsP25
import Derived.Test.YtofacoojpgkbiaaCalsP26
set_option linter.unusedVariables false
set_option maxHeartbeats 8000000
set_option linter.unusedSimpArgs false
namespace Go.Proofs.Ytofacoojpgkbiaa
open Go.Conc Go.RowKit
open Go.ConcN (upd upd_ne upd_same)
set_option maxRecDepth 100000
def zb9 (S:GMc) (i:Nat) (o:OpD):GMc :=
 if o.kind < 1∨7 < o.kind then S.setT i (zdw (S.T i) ⟨false,0,[]⟩)
 else if o.kind≤4∧(o.a < 0∨64≤o.a) then S.setT i (zdw (S.T i) ⟨false,1,[]⟩)
 else S.setT i { S.T i with pc:=1 }
def zl5 (S:GMc) (i:Nat) (l:List Int):GMc :=
 if S.ser≠(S.T i).ser then S.setT i { S.T i with pc:=1 }
 else ({ S with L:=l,ser:=S.ser+1 }:GMc).setT i (zdw (S.T i) ⟨true,0,[]⟩)
theorem MDone.of {K:MK} {S':GMc} {w w1 w':World} {e:Ending} (k:KeepM K.nb w w1) (h:MDone K S' w1 e w'):MDone K S' w e w':=by
 obtain ⟨h1,V',h2,h3⟩:=h;exact ⟨h1,V',h2,k.trans h3⟩
section
variable {K:MK} {V:MV} {S:GMc} {w:World} {i:Nat}
theorem zrm (h:MMem K V S w) (hi:i < K.n) (hlen:(S.T i).ans.length≤100000) (hat:(S.T i).at_≤100000) (o:OpD) :
  Calls Try.prog 175 #[.pointer (some ⟨K.mb,0,none⟩),.int .i64 i,opV o] w (MDone K (zb9 S i o) w):=by
 obtain ⟨ok,oa,ob,oc⟩:=o;unfold opV;simp only;have hi':(i:Int) < (K.n:Int):=by omega
 have h0:=h.alloc (.cells #[.int .i64 ok,.int .i64 oa,.int .i64 ob,.int .i64 oc] 45);have k0:KeepM K.nb w (w.alloc (.cells #[.int .i64 ok,.int .i64 oa,.int .i64 ob,.int .i64 oc] 45)):=KeepM.refl.alloc _;have EN:=heap_alloc_new w (.cells #[.int .i64 ok,.int .i64 oa,.int .i64 ob,.int .i64 oc] 45);have HE:=yay fun (r:Ans)=>zbs (r:=r) (u := .slice none 0 0) h0 hi hlen hat;have b0:=zac EN 0;have b1:=zac EN 1;simp only [yac,yaa,yab] at b0 b1;have c3:=h0.cellM 3;have c4:=h0.cellT hi (k:=4) (by decide);have z4:=h0.trow.free (i * 9+4);simp only [tcV,yac,yaa,yab] at c4 c3;obtain ⟨V1,h1,k1⟩:=h0.setPc hi rfl 1;replace k0:=yay k0;replace h:=yay h;replace h0:=yay h0;replace h1:=yay h1;replace k1:=yay k1;replace EN:=yay EN;by_cases q1:ok < 1
 ·have hr:zb9 S i ⟨ok,oa,ob,oc⟩=S.setT i (zdw (S.T i) ⟨false,0,[]⟩):=by unfold zb9;rw [if_pos (.inl q1)]
  rw [hr];have d1:decide (ok < 1)=true:=decide_eq_true q1;replace q1:=yay q1;clear hr;go_enter Try.func175,Try.ntmps175
  go_upto_region 2 with fail
  generalize w.alloc (.cells #[.int .i64 ok,.int .i64 oa,.int .i64 ob,.int .i64 oc] 45)=w1 at *
  go_wp2_with (go_at_call 176;refine (HE.out ⟨false,0,[]⟩ (LstN.nil _ _)).mono ?_;rintro e w' ⟨rfl,hd⟩;replace hd:=yay hd)
  go_end0
  exact (MDone.of k0.out ⟨rfl,hd.out⟩)
 by_cases q2:7 < ok
 ·have hr:zb9 S i ⟨ok,oa,ob,oc⟩=S.setT i (zdw (S.T i) ⟨false,0,[]⟩):=by unfold zb9;rw [if_pos (.inr q2)]
  rw [hr];have d1:decide (ok < 1)=false:=decide_eq_false q1;have d2:decide (7 < ok)=true:=decide_eq_true q2;replace q1:=yay q1;replace q2:=yay q2;clear hr;go_enter Try.func175,Try.ntmps175
  go_upto_region 2 with fail
  generalize w.alloc (.cells #[.int .i64 ok,.int .i64 oa,.int .i64 ob,.int .i64 oc] 45)=w1 at *
  go_wp2_with (go_at_call 176;refine (HE.out ⟨false,0,[]⟩ (LstN.nil _ _)).mono ?_;rintro e w' ⟨rfl,hd⟩;replace hd:=yay hd)
  go_end0
  exact (MDone.of k0.out ⟨rfl,hd.out⟩)
 have d1:decide (ok < 1)=false:=decide_eq_false q1;have d2:decide (7 < ok)=false:=decide_eq_false q2;by_cases q3:ok≤4∧(oa < 0∨64≤oa)
 ·have hr:zb9 S i ⟨ok,oa,ob,oc⟩=S.setT i (zdw (S.T i) ⟨false,1,[]⟩):=by unfold zb9;rw [if_neg (by simp only;omega),if_pos q3]
  rw [hr];clear hr;have d3:decide (ok≤4)=true:=decide_eq_true q3.1;replace q1:=yay q1;replace q2:=yay q2;by_cases q4:oa < 0
  ·have d4:decide (oa < 0)=true:=decide_eq_true q4;replace q3:=yay q3;replace q4:=yay q4;go_enter Try.func175,Try.ntmps175
   go_upto_region 2 with fail
   generalize w.alloc (.cells #[.int .i64 ok,.int .i64 oa,.int .i64 ob,.int .i64 oc] 45)=w1 at *
   go_wp2_with (go_at_call 176;refine (HE.out ⟨false,1,[]⟩ (LstN.nil _ _)).mono ?_;rintro e w' ⟨rfl,hd⟩;replace hd:=yay hd)
   go_end0
   exact (MDone.of k0.out ⟨rfl,hd.out⟩)
  ·have d4:decide (oa < 0)=false:=decide_eq_false q4;have d5:decide (64≤oa)=true:=decide_eq_true (by omega);replace q3:=yay q3;replace q4:=yay q4;go_enter Try.func175,Try.ntmps175
   go_upto_region 2 with fail
   generalize w.alloc (.cells #[.int .i64 ok,.int .i64 oa,.int .i64 ob,.int .i64 oc] 45)=w1 at *
   go_wp2_with (go_at_call 176;refine (HE.out ⟨false,1,[]⟩ (LstN.nil _ _)).mono ?_;rintro e w' ⟨rfl,hd⟩;replace hd:=yay hd)
   go_end0
   exact (MDone.of k0.out ⟨rfl,hd.out⟩)
 ·have hr:zb9 S i ⟨ok,oa,ob,oc⟩=S.setT i { S.T i with pc:=1 }:=by unfold zb9;rw [if_neg (by simp only;omega),if_neg q3]
  rw [hr];clear hr;by_cases q4:ok≤4
  ·have d3:decide (ok≤4)=true:=decide_eq_true q4;have d4:decide (oa < 0)=false:=decide_eq_false (by omega);have d5:decide (64≤oa)=false:=decide_eq_false (by omega);replace q1:=yay q1;replace q2:=yay q2;replace q3:=yay q3;replace q4:=yay q4;go_enter Try.func175,Try.ntmps175
   go_upto_region 2 with fail
   generalize w.alloc (.cells #[.int .i64 ok,.int .i64 oa,.int .i64 ob,.int .i64 oc] 45)=w1 at *
   go_wp2_with fail
   go_end0
   exact ⟨rfl,_,h1.out,k0.out.trans k1.out⟩
  ·have d3:decide (ok≤4)=false:=decide_eq_false q4;replace q1:=yay q1;replace q2:=yay q2;replace q3:=yay q3;replace q4:=yay q4;go_enter Try.func175,Try.ntmps175
   go_upto_region 2 with fail
   generalize w.alloc (.cells #[.int .i64 ok,.int .i64 oa,.int .i64 ob,.int .i64 oc] 45)=w1 at *
   go_wp2_with fail
   go_end0
   exact ⟨rfl,_,h1.out,k0.out.trans k1.out⟩
theorem zpl (h:MMem K V S w) (hi:i < K.n) (hlen:(S.T i).ans.length≤100000) (hat:(S.T i).at_≤100000) (hs:0≤S.ser∧S.ser≤4611686018427387904) {u:Value} {l:List Int} (hu:LstN K.nb w u l) :
  Calls Try.prog 178 #[.pointer (some ⟨K.mb,0,none⟩),.int .i64 i,u] w (MDone K (zl5 S i l) w):=by
 have hi':(i:Int) < (K.n:Int):=by omega
 obtain ⟨ua,uc,rfl,_,_⟩:=id hu;obtain ⟨un,hun⟩:∃ n,l.length=n:=⟨_,rfl⟩;rw [hun] at hu ⊢;have c1:=h.cellM 1;have c3:=h.cellM 3;have c6:=h.cellT hi (k:=6) (by decide);simp only [tcV,yac,yaa,yab] at c1 c3 c6;have hd:=h.drew;by_cases q:S.ser=(S.T i).ser
 ·have hr:zl5 S i l=({ S with L:=l,ser:=S.ser+1 }:GMc).setT i (zdw (S.T i) ⟨true,0,[]⟩):=by unfold zl5;rw [if_neg (by simp [q])]
  rw [hr];have d1:(S.ser != (S.T i).ser)=false:=by simp [q]
  obtain ⟨h1,k1⟩:=hd.setM (k:=0) (.slice ua un uc) (.slice ua un uc) l S.ser rfl (show LstN K.nb w.drew _ _ from hu)
  obtain ⟨h2,k2⟩:=h1.setM (k:=1) (.int .i64 (S.ser+1)) (.slice ua un uc) l (S.ser+1) rfl (k1.lst (show LstN K.nb w.drew _ _ from hu))
  have k3:KeepM K.nb w ((w.drew.setCell ⟨K.mb,0,none⟩ (.slice ua un uc)).setCell ⟨K.mb,1,none⟩ (.int .i64 (S.ser+1))):=(show KeepM K.nb w w.drew from KeepM.refl).trans (k1.trans k2)
  have HE:=yay (zbs (r:=⟨true,0,[]⟩) h2 hi hlen hat (LstN.nil _ _));have f0:=zan hd.mach 0;have a1:=h1.cellM 1;have f1:=zan h1.mach 1;have a0:=hd.cellM 0;simp only [yac,yaa,yab] at a0 a1;have e1:IntKind.i64.wrap (S.ser+1)=S.ser+1:=by rw [IntKind.wrap_i64];omega
  replace q:=yay q;replace h:=yay h;replace hd:=yay hd;replace h1:=yay h1;replace h2:=yay h2;replace k1:=yay k1;replace k2:=yay k2;replace k3:=yay k3;replace hu:=yay hu;replace hr:=yay hr;replace hs:=yay hs;go_enter Try.func178,Try.ntmps178
  go_upto_region 0 with fail
  go_cut [18] (fun v wx=>v = .bool false∧wx=w.drew)
  case first =>
   go_region
   all_goals (go_wp2_with fail;go_meet)
   all_goals exact ⟨rfl,rfl⟩
  case rest =>
   obtain ⟨rfl,rfl⟩:=hcut;generalize w.drew=wd at *
   go_wp2_with (go_at_call 176;refine HE.out.mono ?_;rintro e w' ⟨rfl,hdd⟩;replace hdd:=yay hdd)
   go_end0
   exact MDone.of k3.out ⟨rfl,hdd.out⟩
 ·have hr:zl5 S i l=S.setT i { S.T i with pc:=1 }:=by unfold zl5;rw [if_pos q]
  rw [hr];have d1:(S.ser != (S.T i).ser)=true:=by simp [q]
  have a3:=hd.cellM 3;have a4:=hd.cellT hi (k:=4) (by decide);have z4:=hd.trow.free (i * 9+4);simp only [tcV,yac,yaa,yab] at a3 a4;obtain ⟨V1,h1,k1⟩:=hd.setPc hi rfl 1;have k2:KeepM K.nb w (w.drew.setCell ⟨K.tb,i * 9+4,none⟩ (.int .i64 1)):=(show KeepM K.nb w w.drew from KeepM.refl).trans k1
  replace q:=yay q;replace h:=yay h;replace hd:=yay hd;replace h1:=yay h1;replace k1:=yay k1;replace k2:=yay k2;replace hu:=yay hu;replace hr:=yay hr;go_enter Try.func178,Try.ntmps178
  go_upto_region 0 with fail
  go_cut [18] (fun v wx=>v = .bool true∧wx=w.drew)
  case first =>
   go_region
   all_goals (go_wp2_with fail;go_meet)
   all_goals exact ⟨rfl,rfl⟩
  case rest =>
   obtain ⟨rfl,rfl⟩:=hcut;generalize w.drew=wd at *
   go_wp2_with fail
   go_end0
   exact ⟨rfl,_,h1.out,k2.out⟩
end
theorem GMc.setT_L (S:GMc) (i:Nat) (t:GT):(S.setT i t).L=S.L:=rfl
theorem GMc.setT_ser (S:GMc) (i:Nat) (t:GT):(S.setT i t).ser=S.ser:=rfl
theorem GMc.setT_N (S:GMc) (i:Nat) (t:GT):(S.setT i t).N=S.N:=rfl
def zfa (S:GMc) (i:Nat) (o:OpD):GMc :=
 if o.kind=6 then S.setT i (zdw (S.T i) ⟨true,(S.T i).least,[(S.T i).place]⟩)
 else if (S.T i).list.length=0∨zdz (S.T i).least o.a o.b=true then S.setT i (zdw (S.T i) ⟨true,-1,[]⟩)
 else S.setT i (zdw (S.T i) ⟨false,(S.T i).place,[]⟩)
def zeg (S:GMc) (i:Nat) (o:OpD) (pc:Int):GMc :=
 if pc=1 then
  if 0 < (S.T i).list.length then S else zfa (S.setT i { S.T i with place := -1,least:=o.a }) i o
 else
  let p:=(S.T i).list.getD (pc - 2).toNat 0
  let n:=S.N p.toNat
  let S':=if pc=2∨n < (S.T i).least then S.setT i { S.T i with least:=n,place:=p } else S
  if pc - 1 < (S.T i).list.length then S' else zfa S' i o
section
variable {K:MK} {V:MV} {S:GMc} {w:World} {i:Nat}
theorem zn2 {S2:GMc} {w0 w':World} {least place:Int} (hd:∃ V',MMem K V' S2 w'∧KeepM K.nb w0 w') (hi:i < K.n) (h7:(S2.T i).least=least) (h8:(S2.T i).place=place) :
  w'.cell? ⟨K.mb,3,none⟩=some (.slice (some ⟨K.tb,0,none⟩) K.n K.cap)∧w'.cell? ⟨K.tb,i * 9+7,none⟩=some (.int .i64 least)∧w'.cell? ⟨K.tb,i * 9+8,none⟩=some (.int .i64 place):=by
 obtain ⟨V',h,_⟩:=hd;subst h7 h8;exact ⟨h.cellM 3,h.cellT hi (k:=7) (by decide),h.cellT hi (k:=8) (by decide)⟩
theorem zwo (h:MMem K V S w) (hi:i < K.n) (hlen:(S.T i).ans.length≤100000) (hat:(S.T i).at_≤100000) {ok oa ob oc pc:Int} (hp:pc=1) (hl:0 < (S.T i).list.length) :
  Calls Try.prog 180 #[.pointer (some ⟨K.mb,0,none⟩),.int .i64 i,.agg #[.int .i64 ok,.int .i64 oa,.int .i64 ob,.int .i64 oc],.int .i64 pc] w (MDone K (S) w):=by
 have hi':(i:Int) < (K.n:Int):=by omega
 subst hp;have h0:=h.alloc (.cells #[.int .i64 ok,.int .i64 oa,.int .i64 ob,.int .i64 oc] 45);have k0:KeepM K.nb w (w.alloc (.cells #[.int .i64 ok,.int .i64 oa,.int .i64 ob,.int .i64 oc] 45)):=KeepM.refl.alloc _;have EN:=heap_alloc_new w (.cells #[.int .i64 ok,.int .i64 oa,.int .i64 ob,.int .i64 oc] 45);generalize hM:w.heap.size=M at *;replace hM:=yay hM;replace h:=yay h;go_enter Try.func180,Try.ntmps180
 go_upto_region 1 with fail
 rw [hM.out];generalize w.alloc (.cells #[.int .i64 ok,.int .i64 oa,.int .i64 ob,.int .i64 oc] 45)=w1 at *;have HB:Hid (∀ W,KeepM K.nb w1 W→W.heap[M]?=some (.cells #[.int .i64 ok,.int .i64 oa,.int .i64 ob,.int .i64 oc] 45 (0,0))):=yay fun W k=>k M _ 45 EN (by decide) (by decide) (by decide) (fun z=>by
  obtain ⟨c,n1,_⟩:=h0.num;rw [← z,EN] at n1;simp at n1)
 have kk:Hid (KeepM K.nb w1 w1):=yay KeepM.refl;replace EN:=yay EN;replace h0:=yay h0;replace k0:=yay k0;obtain ⟨la,lc,hvl,hlc,_,hlq⟩:=h0.out.vls i hi;have x0m3:=h0.out.cellM 3;have x0t5:=h0.out.cellT hi (k:=5) (by decide);simp only [tcV,yac,yaa,yab,GMc.setT_T,GMc.setT_L,GMc.setT_ser,GMc.setT_N] at x0m3 x0t5;rw [hvl] at x0t5;have q1:decide (0 < ((S.T i).list.length:Int))=true:=decide_eq_true (by omega);clear hlq;replace hvl:=yay hvl;replace hl:=yay hl;replace hlc:=yay hlc
 go_wp2_with fail
 go_end0
 exact ⟨rfl,_,h0.out,k0.out⟩
theorem zt2 (h:MMem K V S w) (hi:i < K.n) (hlen:(S.T i).ans.length≤100000) (hat:(S.T i).at_≤100000) {ok oa ob oc pc:Int} (hp:pc=1) (hl:(S.T i).list=[]) (hk:ok=6) :
  Calls Try.prog 180 #[.pointer (some ⟨K.mb,0,none⟩),.int .i64 i,.agg #[.int .i64 ok,.int .i64 oa,.int .i64 ob,.int .i64 oc],.int .i64 pc] w (MDone K ((S.setT i { S.T i with place := -1,least:=oa }).setT i (zdw ((S.setT i { S.T i with place := -1,least:=oa }).T i) ⟨true,oa,[-1]⟩)) w):=by
 have hi':(i:Int) < (K.n:Int):=by omega
 subst hk;subst hp;have h0:=h.alloc (.cells #[.int .i64 6,.int .i64 oa,.int .i64 ob,.int .i64 oc] 45);have k0:KeepM K.nb w (w.alloc (.cells #[.int .i64 6,.int .i64 oa,.int .i64 ob,.int .i64 oc] 45)):=KeepM.refl.alloc _;have EN:=heap_alloc_new w (.cells #[.int .i64 6,.int .i64 oa,.int .i64 ob,.int .i64 oc] 45);generalize hM:w.heap.size=M at *;replace hM:=yay hM;replace h:=yay h;go_enter Try.func180,Try.ntmps180
 go_upto_region 1 with fail
 rw [hM.out];generalize w.alloc (.cells #[.int .i64 6,.int .i64 oa,.int .i64 ob,.int .i64 oc] 45)=w1 at *;have HB:Hid (∀ W,KeepM K.nb w1 W→W.heap[M]?=some (.cells #[.int .i64 6,.int .i64 oa,.int .i64 ob,.int .i64 oc] 45 (0,0))):=yay fun W k=>k M _ 45 EN (by decide) (by decide) (by decide) (fun z=>by
  obtain ⟨c,n1,_⟩:=h0.num;rw [← z,EN] at n1;simp at n1)
 have kk:Hid (KeepM K.nb w1 w1):=yay KeepM.refl;replace EN:=yay EN;replace h0:=yay h0;replace k0:=yay k0;obtain ⟨la,lc,hvl,hlc,_,hlq⟩:=h0.out.vls i hi;replace hlen:=yay hlen;replace hat:=yay hat;have x0m3:=h0.out.cellM 3;have x0t5:=h0.out.cellT hi (k:=5) (by decide);have x0t8:=h0.out.cellT hi (k:=8) (by decide);simp only [tcV,yac,yaa,yab,GMc.setT_T,GMc.setT_L,GMc.setT_ser,GMc.setT_N] at x0m3 x0t5 x0t8;have x0z8:=h0.out.trow.free (i * 9+8);rw [hvl,hl] at x0t5;clear hlq;replace hvl:=yay hvl;replace hl:=yay hl;replace hlc:=yay hlc;obtain ⟨V1,h1,k1⟩:=h0.out.setPlace hi (rfl) (-1);replace k1:KeepM K.nb w1 (w1.setCell ⟨K.tb,i * 9+8,none⟩ (.int .i64 (-1))):=kk.out.trans k1;replace h1:=yay h1;replace k1:=yay k1;go_upto_region 5 with fail
 clear x0m3 x0t5 x0t8 x0z8;generalize w1.setCell ⟨K.tb,i * 9+8,none⟩ (.int .i64 (-1))=w2 at *;have x1m3:=h1.out.cellM 3;have x1t7:=h1.out.cellT hi (k:=7) (by decide);have x1g:=HB.out _ k1.out;have x1o1:=zac x1g 1;clear x1g;simp only [tcV,yac,yaa,yab,GMc.setT_T,GMc.setT_L,GMc.setT_ser,GMc.setT_N] at x1m3 x1t7 x1o1;have x1z7:=h1.out.trow.free (i * 9+7);obtain ⟨V2,h2,k2⟩:=h1.out.setLeast hi (GMc.setT_T _ _ _) oa;rw [GMc.setT_setT] at h2;replace h2:=h2.drew;replace k2:KeepM K.nb w1 ((w2.setCell ⟨K.tb,i * 9+7,none⟩ (.int .i64 oa)).drew):=k1.out.trans k2;replace h2:=yay h2;replace k2:=yay k2
 go_cut [41] (fun v wy=>wy=(w2.setCell ⟨K.tb,i * 9+7,none⟩ (.int .i64 oa)).drew)
 case first =>
  go_region
  all_goals (go_wp2_with fail;go_meet)
  all_goals rfl
 case rest =>
  subst hcut;clear x1m3 x1t7 x1o1 x1z7;generalize (w2.setCell ⟨K.tb,i * 9+7,none⟩ (.int .i64 oa)).drew=w3 at *;have x2g:=HB.out _ k2.out;have x2o0:=zac x2g 0;clear x2g;simp only [tcV,yac,yaa,yab,GMc.setT_T,GMc.setT_L,GMc.setT_ser,GMc.setT_N] at x2o0;have x2m3:=h2.out.cellM 3;have x2t7:=h2.out.cellT hi (k:=7) (by decide);have x2t8:=h2.out.cellT hi (k:=8) (by decide);simp only [tcV,yac,yaa,yab,GMc.setT_T,GMc.setT_L,GMc.setT_ser,GMc.setT_N] at x2m3 x2t7 x2t8;have al:∀ {a:Addr} {v:Value} (o:Obj),w3.cell? a=some v→(w3.alloc o).cell? a=some v:=fun {a v} o hv=>(World.cell?_of_block (w:=w3) (Below.heap_alloc _ _ _ (World.block_lt_of_cell? w3 _ hv))).trans hv;have ym3:=al (.cells #[.int .i64 (-1)] 2) x2m3;have yt7:=al (.cells #[.int .i64 (-1)] 2) x2t7;have yt8:=al (.cells #[.int .i64 (-1)] 2) x2t8;clear al;have LX:LstN K.nb (w3.alloc (.cells #[.int .i64 (-1)] 2)).drew (.slice (some ⟨w3.heap.size,0,none⟩) 1 1) [-1]:=by
   refine ⟨_,1,rfl,yax _,fun z=>(by cases z),fun _=>⟨w3.heap.size,0,_,rfl,?_,heap_alloc_new w3 (.cells #[.int .i64 (-1)] 2),fun j x hj=>?_⟩⟩
   ·obtain ⟨c,n1,_⟩:=h2.out.num;have:=(yah.1 n1).1;omega
   ·rcases j with _|j
    ·obtain rfl : -1=x:=by simpa using hj
     rfl
    ·simp at hj
  have kx:Hid (KeepM K.nb w1 (w3.alloc (.cells #[.int .i64 (-1)] 2)).drew):=yay (KeepM.alloc k2.out _);have HE:=yay (zbs (r:=⟨true,oa,[-1]⟩) ((h2.out.alloc (.cells #[.int .i64 (-1)] 2)).drew) hi (by first|exact hlen.out|(rw [GMc.setT_T];exact hlen.out)) (by first|exact hat.out|(rw [GMc.setT_T];exact hat.out)) LX);replace LX:=yay LX;go_upto_region 13 with fail
  go_cut [99] (fun v wy=>MDone K (((S.setT i { { S.T i with place := -1 } with least:=oa })).setT i (zdw (((S.setT i { { S.T i with place := -1 } with least:=oa })).T i) ⟨true,oa,[-1]⟩)) w (.returned (.tuple #[])) wy)
  case first =>
   go_region_held3 (fun W'=>W'.cell? ⟨K.mb,3,none⟩=some (.slice (some ⟨K.tb,0,none⟩) K.n K.cap)∧W'.cell? ⟨K.tb,i * 9+7,none⟩=some (.int .i64 (oa))∧W'.cell? ⟨K.tb,i * 9+8,none⟩=some (.int .i64 (-1)))
    (first|exact ⟨x2m3,x2t7,x2t8⟩|exact ⟨ym3,yt7,yt8⟩|exact zn2 hdd.out hi (by simp only [zdw,GMc.setT_T]) (by simp only [zdw,GMc.setT_T]))
    ((go_at_call 176;refine HE.out.mono ?_;rintro e w' ⟨rfl,hdd⟩;replace hdd:=yay hdd))
   all_goals (go_wp2_with fail;go_meet)
   all_goals exact MDone.of (k0.out.trans kx.out) ⟨rfl,hdd.out⟩
  case rest =>
   replace hcut:=yay hcut
   go_wp2_with fail
   go_end0
   exact hcut.out
theorem zwp (h:MMem K V S w) (hi:i < K.n) (hlen:(S.T i).ans.length≤100000) (hat:(S.T i).at_≤100000) {ok oa ob oc pc:Int} (hp:pc=1) (hl:(S.T i).list=[]) (hk:(ok==6)=false) :
  Calls Try.prog 180 #[.pointer (some ⟨K.mb,0,none⟩),.int .i64 i,.agg #[.int .i64 ok,.int .i64 oa,.int .i64 ob,.int .i64 oc],.int .i64 pc] w (MDone K ((S.setT i { S.T i with place := -1,least:=oa }).setT i (zdw ((S.setT i { S.T i with place := -1,least:=oa }).T i) ⟨true,-1,[]⟩)) w):=by
 have hi':(i:Int) < (K.n:Int):=by omega
 subst hp;have h0:=h.alloc (.cells #[.int .i64 ok,.int .i64 oa,.int .i64 ob,.int .i64 oc] 45);have k0:KeepM K.nb w (w.alloc (.cells #[.int .i64 ok,.int .i64 oa,.int .i64 ob,.int .i64 oc] 45)):=KeepM.refl.alloc _;have EN:=heap_alloc_new w (.cells #[.int .i64 ok,.int .i64 oa,.int .i64 ob,.int .i64 oc] 45);generalize hM:w.heap.size=M at *;replace hM:=yay hM;replace h:=yay h;go_enter Try.func180,Try.ntmps180
 go_upto_region 1 with fail
 rw [hM.out];generalize w.alloc (.cells #[.int .i64 ok,.int .i64 oa,.int .i64 ob,.int .i64 oc] 45)=w1 at *;have HB:Hid (∀ W,KeepM K.nb w1 W→W.heap[M]?=some (.cells #[.int .i64 ok,.int .i64 oa,.int .i64 ob,.int .i64 oc] 45 (0,0))):=yay fun W k=>k M _ 45 EN (by decide) (by decide) (by decide) (fun z=>by
  obtain ⟨c,n1,_⟩:=h0.num;rw [← z,EN] at n1;simp at n1)
 have kk:Hid (KeepM K.nb w1 w1):=yay KeepM.refl;replace EN:=yay EN;replace h0:=yay h0;replace k0:=yay k0;obtain ⟨la,lc,hvl,hlc,_,hlq⟩:=h0.out.vls i hi;replace hlen:=yay hlen;replace hat:=yay hat;have x0m3:=h0.out.cellM 3;have x0t5:=h0.out.cellT hi (k:=5) (by decide);have x0t8:=h0.out.cellT hi (k:=8) (by decide);simp only [tcV,yac,yaa,yab,GMc.setT_T,GMc.setT_L,GMc.setT_ser,GMc.setT_N] at x0m3 x0t5 x0t8;have x0z8:=h0.out.trow.free (i * 9+8);rw [hvl,hl] at x0t5;clear hlq;replace hvl:=yay hvl;replace hl:=yay hl;replace hlc:=yay hlc;obtain ⟨V1,h1,k1⟩:=h0.out.setPlace hi (rfl) (-1);replace k1:KeepM K.nb w1 (w1.setCell ⟨K.tb,i * 9+8,none⟩ (.int .i64 (-1))):=kk.out.trans k1;replace h1:=yay h1;replace k1:=yay k1;go_upto_region 5 with fail
 clear x0m3 x0t5 x0t8 x0z8;generalize w1.setCell ⟨K.tb,i * 9+8,none⟩ (.int .i64 (-1))=w2 at *;have x1m3:=h1.out.cellM 3;have x1t7:=h1.out.cellT hi (k:=7) (by decide);have x1g:=HB.out _ k1.out;have x1o1:=zac x1g 1;clear x1g;simp only [tcV,yac,yaa,yab,GMc.setT_T,GMc.setT_L,GMc.setT_ser,GMc.setT_N] at x1m3 x1t7 x1o1;have x1z7:=h1.out.trow.free (i * 9+7);obtain ⟨V2,h2,k2⟩:=h1.out.setLeast hi (GMc.setT_T _ _ _) oa;rw [GMc.setT_setT] at h2;replace h2:=h2.drew;replace k2:KeepM K.nb w1 ((w2.setCell ⟨K.tb,i * 9+7,none⟩ (.int .i64 oa)).drew):=k1.out.trans k2;replace h2:=yay h2;replace k2:=yay k2
 go_cut [41] (fun v wy=>wy=(w2.setCell ⟨K.tb,i * 9+7,none⟩ (.int .i64 oa)).drew)
 case first =>
  go_region
  all_goals (go_wp2_with fail;go_meet)
  all_goals rfl
 case rest =>
  subst hcut;clear x1m3 x1t7 x1o1 x1z7;generalize (w2.setCell ⟨K.tb,i * 9+7,none⟩ (.int .i64 oa)).drew=w3 at *;have x2m3:=h2.out.cellM 3;have x2g:=HB.out _ k2.out;have x2o0:=zac x2g 0;clear x2g;simp only [tcV,yac,yaa,yab,GMc.setT_T,GMc.setT_L,GMc.setT_ser,GMc.setT_N] at x2m3 x2o0;have HE:=yay (zbs (r:=⟨true,-1,[]⟩) (h2.out.drew) hi (by first|exact hlen.out|(rw [GMc.setT_T];exact hlen.out)) (by first|exact hat.out|(rw [GMc.setT_T];exact hat.out)) (LstN.nil _ _));go_upto_region 14 with fail
  go_cut [10] (fun v wy=>v = .bool true∧wy=w3.drew)
  case first =>
   go_region
   all_goals (go_wp2_with fail;go_meet)
   all_goals exact ⟨rfl,rfl⟩
  case rest =>
   obtain ⟨rfl,rfl⟩:=hcut;have kx:Hid (KeepM K.nb w1 w3.drew):=yay k2.out;generalize w3.drew=wd at *
   go_wp2_with (go_at_call 176;refine HE.out.mono ?_;rintro e w' ⟨rfl,hdd⟩;replace hdd:=yay hdd)
   go_end0
   exact MDone.of (k0.out.trans kx.out) ⟨rfl,hdd.out⟩
end
def opG (t:GT):OpD:=t.ops.getD t.at_ ⟨0,0,0,0⟩
section
variable {K:MK} {V:MV} {S:GMc} {w:World} {i:Nat}
theorem MMem.opAt (h:MMem K V S w) (hi:i < K.n) {t:GT} (ht:S.T i=t) (hat:t.at_ < t.ops.length):∃ b o cap,K.vo i = .slice (some ⟨b,o,none⟩) t.ops.length cap∧(opG t).Ok ∧
  w.cell? ⟨b,o+t.at_ * 4,none⟩=some (.int .i64 (opG t).kind)∧w.cell? ⟨b,o+t.at_ * 4+1,none⟩=some (.int .i64 (opG t).a)∧w.cell? ⟨b,o+t.at_ * 4+2,none⟩=some (.int .i64 (opG t).b)∧w.cell? ⟨b,o+t.at_ * 4+3,none⟩=some (.int .i64 (opG t).c):=by
 subst ht;obtain ⟨ao,cap,e,h0,h1,h2,h3⟩:=h.ops i hi;obtain ⟨b,o,rfl,q⟩:=h3 (by intro z;rw [z] at hat;simp at hat);have hx:(S.T i).ops[(S.T i).at_]?=some (opG (S.T i)):=by unfold opG;rw [List.getD_eq_getElem?_getD,List.getElem?_eq_getElem hat];rfl
 obtain ⟨o0,o1,o2,o3⟩:=q _ _ hx;have kp:∀ {a:Addr} {v:Value},K.w0.cell? a=some v→w.cell? a=some v:=fun {a v} hv=>(World.cell?_of_block (w:=K.w0) (h.low.block _ (by rw [← h.bs];exact World.block_lt_of_cell? K.w0 _ hv))).trans hv;exact ⟨b,o,cap,e,h0 _ (List.mem_of_getElem? hx),kp o0,kp o1,kp o2,kp o3⟩
end
def GMc.setN (S:GMc) (j:Nat) (v:Int):GMc:={ S with N:=upd S.N j v }
def zm1 (S:GMc) (i:Nat) (r:Ans):GMc:=S.setT i (zdw (S.T i) r)
theorem GMc.setN_T (S:GMc) (j:Nat) (v:Int):(S.setN j v).T=S.T:=rfl
section
variable {K:MK} {V:MV} {S:GMc} {w:World} {i:Nat}
theorem MMem.freeN (h:MMem K V S w) (x:Nat):w.frozen? ⟨K.nb,x,none⟩=false:=by
 obtain ⟨c,n1,_⟩:=h.num;exact zan n1 x
theorem MMem.lN (h:MMem K V S w) {j:Nat} (hj:j < 64) (v:Int):MMem K V (S.setN j v) (w.setCell ⟨K.nb,j,none⟩ (.int .i64 v))∧KeepM K.nb w (w.setCell ⟨K.nb,j,none⟩ (.int .i64 v)):=h.setN hj v
end
section
variable {K:MK} {V:MV} {S:GMc} {w:World} {i:Nat}
theorem zyt (h:MMem K V S w) (hi:i < K.n) (hlen:(S.T i).ans.length≤100000) (ha9:(S.T i).at_≤100000) (hat:(S.T i).at_ < (S.T i).ops.length) {ok oa ob oc:Int} (ho:opG (S.T i)=⟨ok,oa,ob,oc⟩) {an:Nat} (han:an < 64) (hoa:oa=(an:Int)) (hp:(S.T i).pc=1) (hk:ok=3) :
  Calls Try.prog 139 #[.pointer (some ⟨K.mb,0,none⟩),.int .i64 i] w (MDone K (zm1 ((S.setT i { S.T i with pc:=2 }).setN an ob) i ⟨true,0,[]⟩) w):=by
 have hi':(i:Int) < (K.n:Int):=by omega
 have hat':((S.T i).at_:Int) < ((S.T i).ops.length:Int):=by omega
 subst hoa;subst hk;have han':(an:Int) < 64:=by omega
 obtain ⟨xb,xo,xc,hvo,hok,o0,o1,o2,o3⟩:=h.opAt hi rfl hat;rw [ho] at o0 o1 o2 o3;simp only at o0 o1 o2 o3;have m3:=h.cellM 3;have t0:=h.cellT hi (k:=0) (by decide);have t3:=h.cellT hi (k:=3) (by decide);simp only [tcV,yac,yaa,yab,hvo,Nat.add_zero] at m3 t0 t3;have al:∀ {a:Addr} {v:Value} (o:Obj),w.cell? a=some v→(w.alloc o).cell? a=some v:=fun {a v} o hv=>(World.cell?_of_block (w:=w) (Below.heap_alloc _ _ _ (World.block_lt_of_cell? w _ hv))).trans hv;have am3:=al (.cells #[.int .i64 0,.int .i64 0,.int .i64 0,.int .i64 0] 45) m3;have at0:=al (.cells #[.int .i64 0,.int .i64 0,.int .i64 0,.int .i64 0] 45) t0;have at3:=al (.cells #[.int .i64 0,.int .i64 0,.int .i64 0,.int .i64 0] 45) t3;have a0:=al (.cells #[.int .i64 0,.int .i64 0,.int .i64 0,.int .i64 0] 45) o0;have a1:=al (.cells #[.int .i64 0,.int .i64 0,.int .i64 0,.int .i64 0] 45) o1;have a2:=al (.cells #[.int .i64 0,.int .i64 0,.int .i64 0,.int .i64 0] 45) o2;have a3:=al (.cells #[.int .i64 0,.int .i64 0,.int .i64 0,.int .i64 0] 45) o3;clear al;have h0:=(h.alloc (.cells #[.int .i64 3,.int .i64 (an:Int),.int .i64 ob,.int .i64 oc] 45)).drew;have k0:KeepM K.nb w (w.alloc (.cells #[.int .i64 3,.int .i64 (an:Int),.int .i64 ob,.int .i64 oc] 45)).drew:=KeepM.alloc KeepM.refl _;have EN:(w.alloc (.cells #[.int .i64 3,.int .i64 (an:Int),.int .i64 ob,.int .i64 oc] 45)).drew.heap[w.heap.size]?=_:=heap_alloc_new w (.cells #[.int .i64 3,.int .i64 (an:Int),.int .i64 ob,.int .i64 oc] 45);generalize hM:w.heap.size=M at *;replace hM:=yay hM;replace h:=yay h;replace hok:=yay hok;replace hat:=yay hat;replace hvo:=yay hvo;replace hlen:=yay hlen;replace ha9:=yay ha9;replace ho:=yay ho;replace h0:=yay h0;replace k0:=yay k0;go_enter Try.func139,Try.ntmps139
 go_upto_region 0 with fail
 go_cut [4] (fun v wx=>v = .pointer (some ⟨M,0,none⟩)∧wx=(w.alloc (.cells #[.int .i64 3,.int .i64 (an:Int),.int .i64 ob,.int .i64 oc] 45)).drew)
 case first =>
  go_region
  all_goals (go_wp2_with fail;go_meet)
  all_goals exact ⟨by rw [hM.out],rfl⟩
 case rest =>
  obtain ⟨rfl,rfl⟩:=hcut;clear m3 t0 t3 am3 at0 at3 a0 a1 a2 a3 o0 o1 o2 o3 hat';generalize (w.alloc (.cells #[.int .i64 3,.int .i64 (an:Int),.int .i64 ob,.int .i64 oc] 45)).drew=w1 at *;have HB:Hid (∀ W,KeepM K.nb w1 W→W.heap[M]?=some (.cells #[.int .i64 3,.int .i64 (an:Int),.int .i64 ob,.int .i64 oc] 45 (0,0))):=yay fun W k=>k M _ 45 EN (by decide) (by decide) (by decide) (fun z=>by
   obtain ⟨c,n1,_⟩:=h0.out.num;rw [← z,EN] at n1;simp at n1)
  have kk:Hid (KeepM K.nb w1 w1):=yay KeepM.refl;replace EN:=yay EN;have x0m3:=h0.out.cellM 3;have x0t4:=h0.out.cellT hi (k:=4) (by decide);have x0g:=HB.out _ kk.out;have x0o0:=zac x0g 0;clear x0g;simp only [tcV,yac,yaa,yab,GMc.setT_T,GMc.setT_L,GMc.setT_ser,GMc.setT_N] at x0m3 x0t4 x0o0;have x0z4:=h0.out.trow.free (i * 9+4);rw [hp] at x0t4;obtain ⟨V1,h1,k1⟩:=h0.out.setPc hi (rfl) 2;replace k1:KeepM K.nb w1 (w1.setCell ⟨K.tb,i * 9+4,none⟩ (.int .i64 2)):=kk.out.trans k1;replace h1:=yay h1;replace k1:=yay k1;go_upto_region 4 with fail
  clear x0m3 x0t4 x0o0 x0z4;generalize w1.setCell ⟨K.tb,i * 9+4,none⟩ (.int .i64 2)=w2 at *;have x1m2:=h1.out.cellM 2;have x1g:=HB.out _ k1.out;have x1o1:=zac x1g 1;have x1o2:=zac x1g 2;clear x1g;simp only [tcV,yac,yaa,yab,GMc.setT_T,GMc.setT_L,GMc.setT_ser,GMc.setT_N] at x1m2 x1o1 x1o2;have xn:=h1.out.cellN han;have xz:=h1.out.freeN an;obtain ⟨h2,k2⟩:=h1.out.lN han ob;replace h2:=h2.drew;replace k2:KeepM K.nb w1 ((w2.setCell ⟨K.nb,an,none⟩ (.int .i64 ob)).drew):=k1.out.trans k2;replace h2:=yay h2;replace k2:=yay k2
  go_cut [54] (fun v wy=>wy=(w2.setCell ⟨K.nb,an,none⟩ (.int .i64 ob)).drew)
  case first =>
   go_region
   all_goals (go_wp2_with fail;go_meet)
   all_goals rfl
  case rest =>
   subst hcut;clear x1m2 x1o1 x1o2 xn xz;generalize (w2.setCell ⟨K.nb,an,none⟩ (.int .i64 ob)).drew=w3 at *;have HE:=yay (zbs (r:=⟨true,0,[]⟩) (h2.out) hi (by first|exact hlen.out|(simp only [GMc.setN_T,GMc.setT_T];exact hlen.out)) (by first|exact ha9.out|(simp only [GMc.setN_T,GMc.setT_T];exact ha9.out)) (LstN.nil _ _))
   go_wp2_with (go_at_call 176;refine HE.out.mono ?_;rintro e w' ⟨rfl,hdd⟩;replace hdd:=yay hdd)
   go_end0
   exact MDone.of (k0.out.trans k2.out) ⟨rfl,hdd.out⟩
theorem zyw (h:MMem K V S w) (hi:i < K.n) (hlen:(S.T i).ans.length≤100000) (ha9:(S.T i).at_≤100000) (hat:(S.T i).at_ < (S.T i).ops.length) {ok oa ob oc:Int} (ho:opG (S.T i)=⟨ok,oa,ob,oc⟩) {an:Nat} (han:an < 64) (hoa:oa=(an:Int)) (hp:(S.T i).pc=1) (hk:ok=4) :
  Calls Try.prog 139 #[.pointer (some ⟨K.mb,0,none⟩),.int .i64 i] w (MDone K (zm1 (S.setT i { S.T i with pc:=2 }) i ⟨true,S.N an,[]⟩) w):=by
 have hi':(i:Int) < (K.n:Int):=by omega
 have hat':((S.T i).at_:Int) < ((S.T i).ops.length:Int):=by omega
 subst hoa;subst hk;have han':(an:Int) < 64:=by omega
 obtain ⟨xb,xo,xc,hvo,hok,o0,o1,o2,o3⟩:=h.opAt hi rfl hat;rw [ho] at o0 o1 o2 o3;simp only at o0 o1 o2 o3;have m3:=h.cellM 3;have t0:=h.cellT hi (k:=0) (by decide);have t3:=h.cellT hi (k:=3) (by decide);simp only [tcV,yac,yaa,yab,hvo,Nat.add_zero] at m3 t0 t3;have al:∀ {a:Addr} {v:Value} (o:Obj),w.cell? a=some v→(w.alloc o).cell? a=some v:=fun {a v} o hv=>(World.cell?_of_block (w:=w) (Below.heap_alloc _ _ _ (World.block_lt_of_cell? w _ hv))).trans hv;have am3:=al (.cells #[.int .i64 0,.int .i64 0,.int .i64 0,.int .i64 0] 45) m3;have at0:=al (.cells #[.int .i64 0,.int .i64 0,.int .i64 0,.int .i64 0] 45) t0;have at3:=al (.cells #[.int .i64 0,.int .i64 0,.int .i64 0,.int .i64 0] 45) t3;have a0:=al (.cells #[.int .i64 0,.int .i64 0,.int .i64 0,.int .i64 0] 45) o0;have a1:=al (.cells #[.int .i64 0,.int .i64 0,.int .i64 0,.int .i64 0] 45) o1;have a2:=al (.cells #[.int .i64 0,.int .i64 0,.int .i64 0,.int .i64 0] 45) o2;have a3:=al (.cells #[.int .i64 0,.int .i64 0,.int .i64 0,.int .i64 0] 45) o3;clear al;have h0:=(h.alloc (.cells #[.int .i64 4,.int .i64 (an:Int),.int .i64 ob,.int .i64 oc] 45)).drew;have k0:KeepM K.nb w (w.alloc (.cells #[.int .i64 4,.int .i64 (an:Int),.int .i64 ob,.int .i64 oc] 45)).drew:=KeepM.alloc KeepM.refl _;have EN:(w.alloc (.cells #[.int .i64 4,.int .i64 (an:Int),.int .i64 ob,.int .i64 oc] 45)).drew.heap[w.heap.size]?=_:=heap_alloc_new w (.cells #[.int .i64 4,.int .i64 (an:Int),.int .i64 ob,.int .i64 oc] 45);generalize hM:w.heap.size=M at *;replace hM:=yay hM;replace h:=yay h;replace hok:=yay hok;replace hat:=yay hat;replace hvo:=yay hvo;replace hlen:=yay hlen;replace ha9:=yay ha9;replace ho:=yay ho;replace h0:=yay h0;replace k0:=yay k0;go_enter Try.func139,Try.ntmps139
 go_upto_region 0 with fail
 go_cut [4] (fun v wx=>v = .pointer (some ⟨M,0,none⟩)∧wx=(w.alloc (.cells #[.int .i64 4,.int .i64 (an:Int),.int .i64 ob,.int .i64 oc] 45)).drew)
 case first =>
  go_region
  all_goals (go_wp2_with fail;go_meet)
  all_goals exact ⟨by rw [hM.out],rfl⟩
 case rest =>
  obtain ⟨rfl,rfl⟩:=hcut;clear m3 t0 t3 am3 at0 at3 a0 a1 a2 a3 o0 o1 o2 o3 hat';generalize (w.alloc (.cells #[.int .i64 4,.int .i64 (an:Int),.int .i64 ob,.int .i64 oc] 45)).drew=w1 at *;have HB:Hid (∀ W,KeepM K.nb w1 W→W.heap[M]?=some (.cells #[.int .i64 4,.int .i64 (an:Int),.int .i64 ob,.int .i64 oc] 45 (0,0))):=yay fun W k=>k M _ 45 EN (by decide) (by decide) (by decide) (fun z=>by
   obtain ⟨c,n1,_⟩:=h0.out.num;rw [← z,EN] at n1;simp at n1)
  have kk:Hid (KeepM K.nb w1 w1):=yay KeepM.refl;replace EN:=yay EN;have x0m3:=h0.out.cellM 3;have x0t4:=h0.out.cellT hi (k:=4) (by decide);have x0g:=HB.out _ kk.out;have x0o0:=zac x0g 0;clear x0g;simp only [tcV,yac,yaa,yab,GMc.setT_T,GMc.setT_L,GMc.setT_ser,GMc.setT_N] at x0m3 x0t4 x0o0;have x0z4:=h0.out.trow.free (i * 9+4);rw [hp] at x0t4;obtain ⟨V1,h1,k1⟩:=h0.out.setPc hi (rfl) 2;replace k1:KeepM K.nb w1 (w1.setCell ⟨K.tb,i * 9+4,none⟩ (.int .i64 2)):=kk.out.trans k1;replace h1:=yay h1;replace k1:=yay k1;go_upto_region 7 with fail
  clear x0m3 x0t4 x0o0 x0z4;generalize w1.setCell ⟨K.tb,i * 9+4,none⟩ (.int .i64 2)=w2 at *;have x1m2:=h1.out.cellM 2;have x1g:=HB.out _ k1.out;have x1o1:=zac x1g 1;clear x1g;simp only [tcV,yac,yaa,yab,GMc.setT_T,GMc.setT_L,GMc.setT_ser,GMc.setT_N] at x1m2 x1o1;have xn:=h1.out.cellN han;have HE:=yay (zbs (r:=⟨true,S.N an,[]⟩) (h1.out.drew) hi (by first|exact hlen.out|(simp only [GMc.setN_T,GMc.setT_T];exact hlen.out)) (by first|exact ha9.out|(simp only [GMc.setN_T,GMc.setT_T];exact ha9.out)) (LstN.nil _ _));have kx:Hid (KeepM K.nb w1 w2.drew):=yay k1.out;simp only [GMc.setT_N] at xn
  go_cut [62] (fun v wy=>MDone K (zm1 (S.setT i { S.T i with pc:=2 }) i ⟨true,S.N an,[]⟩) w (.returned (.tuple #[])) wy)
  case first =>
   go_region_with (go_at_call 176;refine HE.out.mono ?_;rintro e w' ⟨rfl,hdd⟩;replace hdd:=yay hdd)
   all_goals (go_wp2_with fail;go_meet)
   all_goals exact MDone.of (k0.out.trans kx.out) ⟨rfl,hdd.out⟩
  case rest =>
   replace hcut:=yay hcut
   go_wp2_with fail
   go_end0
   exact hcut.out
theorem ztg (h:MMem K V S w) (hi:i < K.n) (hlen:(S.T i).ans.length≤100000) (ha9:(S.T i).at_≤100000) (hat:(S.T i).at_ < (S.T i).ops.length) {ok oa ob oc:Int} (ho:opG (S.T i)=⟨ok,oa,ob,oc⟩) {an:Nat} (han:an < 64) (hoa:oa=(an:Int)) (hp:(S.T i).pc=2) (hk:ok=1) :
  Calls Try.prog 139 #[.pointer (some ⟨K.mb,0,none⟩),.int .i64 i] w (MDone K ((S.setT i { S.T i with pc:=3 }).setN an ob) w):=by
 have hi':(i:Int) < (K.n:Int):=by omega
 have hat':((S.T i).at_:Int) < ((S.T i).ops.length:Int):=by omega
 subst hoa;subst hk;have han':(an:Int) < 64:=by omega
 obtain ⟨xb,xo,xc,hvo,hok,o0,o1,o2,o3⟩:=h.opAt hi rfl hat;rw [ho] at o0 o1 o2 o3;simp only at o0 o1 o2 o3;have m3:=h.cellM 3;have t0:=h.cellT hi (k:=0) (by decide);have t3:=h.cellT hi (k:=3) (by decide);simp only [tcV,yac,yaa,yab,hvo,Nat.add_zero] at m3 t0 t3;have al:∀ {a:Addr} {v:Value} (o:Obj),w.cell? a=some v→(w.alloc o).cell? a=some v:=fun {a v} o hv=>(World.cell?_of_block (w:=w) (Below.heap_alloc _ _ _ (World.block_lt_of_cell? w _ hv))).trans hv;have am3:=al (.cells #[.int .i64 0,.int .i64 0,.int .i64 0,.int .i64 0] 45) m3;have at0:=al (.cells #[.int .i64 0,.int .i64 0,.int .i64 0,.int .i64 0] 45) t0;have at3:=al (.cells #[.int .i64 0,.int .i64 0,.int .i64 0,.int .i64 0] 45) t3;have a0:=al (.cells #[.int .i64 0,.int .i64 0,.int .i64 0,.int .i64 0] 45) o0;have a1:=al (.cells #[.int .i64 0,.int .i64 0,.int .i64 0,.int .i64 0] 45) o1;have a2:=al (.cells #[.int .i64 0,.int .i64 0,.int .i64 0,.int .i64 0] 45) o2;have a3:=al (.cells #[.int .i64 0,.int .i64 0,.int .i64 0,.int .i64 0] 45) o3;clear al;have h0:=(h.alloc (.cells #[.int .i64 1,.int .i64 (an:Int),.int .i64 ob,.int .i64 oc] 45)).drew;have k0:KeepM K.nb w (w.alloc (.cells #[.int .i64 1,.int .i64 (an:Int),.int .i64 ob,.int .i64 oc] 45)).drew:=KeepM.alloc KeepM.refl _;have EN:(w.alloc (.cells #[.int .i64 1,.int .i64 (an:Int),.int .i64 ob,.int .i64 oc] 45)).drew.heap[w.heap.size]?=_:=heap_alloc_new w (.cells #[.int .i64 1,.int .i64 (an:Int),.int .i64 ob,.int .i64 oc] 45);generalize hM:w.heap.size=M at *;replace hM:=yay hM;replace h:=yay h;replace hok:=yay hok;replace hat:=yay hat;replace hvo:=yay hvo;replace hlen:=yay hlen;replace ha9:=yay ha9;replace ho:=yay ho;replace h0:=yay h0;replace k0:=yay k0;go_enter Try.func139,Try.ntmps139
 go_upto_region 0 with fail
 go_cut [4] (fun v wx=>v = .pointer (some ⟨M,0,none⟩)∧wx=(w.alloc (.cells #[.int .i64 1,.int .i64 (an:Int),.int .i64 ob,.int .i64 oc] 45)).drew)
 case first =>
  go_region
  all_goals (go_wp2_with fail;go_meet)
  all_goals exact ⟨by rw [hM.out],rfl⟩
 case rest =>
  obtain ⟨rfl,rfl⟩:=hcut;clear m3 t0 t3 am3 at0 at3 a0 a1 a2 a3 o0 o1 o2 o3 hat';generalize (w.alloc (.cells #[.int .i64 1,.int .i64 (an:Int),.int .i64 ob,.int .i64 oc] 45)).drew=w1 at *;have HB:Hid (∀ W,KeepM K.nb w1 W→W.heap[M]?=some (.cells #[.int .i64 1,.int .i64 (an:Int),.int .i64 ob,.int .i64 oc] 45 (0,0))):=yay fun W k=>k M _ 45 EN (by decide) (by decide) (by decide) (fun z=>by
   obtain ⟨c,n1,_⟩:=h0.out.num;rw [← z,EN] at n1;simp at n1)
  have kk:Hid (KeepM K.nb w1 w1):=yay KeepM.refl;replace EN:=yay EN;have x0m3:=h0.out.cellM 3;have x0t4:=h0.out.cellT hi (k:=4) (by decide);have x0g:=HB.out _ kk.out;have x0o0:=zac x0g 0;clear x0g;simp only [tcV,yac,yaa,yab,GMc.setT_T,GMc.setT_L,GMc.setT_ser,GMc.setT_N] at x0m3 x0t4 x0o0;have x0z4:=h0.out.trow.free (i * 9+4);rw [hp] at x0t4;obtain ⟨V1,h1,k1⟩:=h0.out.setPc hi (rfl) 3;replace k1:KeepM K.nb w1 (w1.setCell ⟨K.tb,i * 9+4,none⟩ (.int .i64 3)):=kk.out.trans k1;replace h1:=yay h1;replace k1:=yay k1;go_upto_region 16 with fail
  clear x0m3 x0t4 x0o0 x0z4;generalize w1.setCell ⟨K.tb,i * 9+4,none⟩ (.int .i64 3)=w2 at *;have x1m2:=h1.out.cellM 2;have x1g:=HB.out _ k1.out;have x1o1:=zac x1g 1;have x1o2:=zac x1g 2;clear x1g;simp only [tcV,yac,yaa,yab,GMc.setT_T,GMc.setT_L,GMc.setT_ser,GMc.setT_N] at x1m2 x1o1 x1o2;have xn:=h1.out.cellN han;have xz:=h1.out.freeN an;obtain ⟨h2,k2⟩:=h1.out.lN han ob;replace h2:=h2.drew;replace k2:KeepM K.nb w1 ((w2.setCell ⟨K.nb,an,none⟩ (.int .i64 ob)).drew):=k1.out.trans k2;replace h2:=yay h2;replace k2:=yay k2;go_region
  all_goals (go_wp2_with fail;go_end0)
  all_goals exact ⟨rfl,_,h2.out,k0.out.trans k2.out⟩
end
section
variable {K:MK} {V:MV} {S:GMc} {w:World} {i:Nat}
theorem zk1 {nb:Nat} {w:World} {u:Value} {l:List Int} (h:LstN nb w u l):zjo w u l.length (zaw l):=by
 obtain ⟨a,cap,e,hc,h0,q⟩:=h;refine ⟨zgo l,fun v hv=>?_,?_⟩
 ·obtain ⟨x,_,rfl⟩:=List.mem_map.1 hv;rfl
 ·by_cases hl:l=[]
  ·subst hl;rcases a with _|a
   ·exact .inl ⟨by rw [e,h0 rfl];rfl,rfl⟩
   ·exact .inr ⟨_,cap,e,fun j v hj=>by simp [zaw] at hj⟩
  ·obtain ⟨b,o,c,rfl,e2,e3,e4⟩:=q hl;exact .inr ⟨_,cap,e,fun j v hj=>by
    obtain ⟨x,hx,rfl⟩:∃ x,l[j]?=some x∧v = .int .i64 x:=by
     unfold zaw at hj;rw [List.getElem?_map] at hj;cases hq:l[j]? with
     | none=>rw [hq] at hj;cases hj
     | some x=>rw [hq] at hj;exact ⟨x,rfl,(yaw hj).symm⟩
    have ea:(⟨b,o,none⟩:Addr).add j=⟨b,o+j,none⟩:=by simp [Addr.add]
    rw [ea,zac e3];exact e4 j x hx⟩
end
section
variable {K:MK} {V:MV} {S:GMc} {w:World} {i:Nat}
theorem zj1 (h:MMem K V S w) (hi:i < K.n) (hlen:(S.T i).ans.length≤100000) (ha9:(S.T i).at_≤100000) (hat:(S.T i).at_ < (S.T i).ops.length) {ok oa ob oc:Int} (ho:opG (S.T i)=⟨ok,oa,ob,oc⟩) (hL9:S.L.length≤1000000000) (hp:(S.T i).pc=1) (hk:ok=1) (hm:decide (oa∈S.L)=true) :
  Calls Try.prog 139 #[.pointer (some ⟨K.mb,0,none⟩),.int .i64 i] w (MDone K (zm1 (S.setT i { S.T i with pc:=2,list:=S.L,ser:=S.ser }) i ⟨false,7,[]⟩) w):=by
 have hi':(i:Int) < (K.n:Int):=by omega
 have hat':((S.T i).at_:Int) < ((S.T i).ops.length:Int):=by omega
 subst hk;obtain ⟨xb,xo,xc,hvo,hok,o0,o1,o2,o3⟩:=h.opAt hi rfl hat;rw [ho] at o0 o1 o2 o3;simp only at o0 o1 o2 o3;have m3:=h.cellM 3;have t0:=h.cellT hi (k:=0) (by decide);have t3:=h.cellT hi (k:=3) (by decide);simp only [tcV,yac,yaa,yab,hvo,Nat.add_zero] at m3 t0 t3;have al:∀ {a:Addr} {v:Value} (o:Obj),w.cell? a=some v→(w.alloc o).cell? a=some v:=fun {a v} o hv=>(World.cell?_of_block (w:=w) (Below.heap_alloc _ _ _ (World.block_lt_of_cell? w _ hv))).trans hv;have am3:=al (.cells #[.int .i64 0,.int .i64 0,.int .i64 0,.int .i64 0] 45) m3;have at0:=al (.cells #[.int .i64 0,.int .i64 0,.int .i64 0,.int .i64 0] 45) t0;have at3:=al (.cells #[.int .i64 0,.int .i64 0,.int .i64 0,.int .i64 0] 45) t3;have a0:=al (.cells #[.int .i64 0,.int .i64 0,.int .i64 0,.int .i64 0] 45) o0;have a1:=al (.cells #[.int .i64 0,.int .i64 0,.int .i64 0,.int .i64 0] 45) o1;have a2:=al (.cells #[.int .i64 0,.int .i64 0,.int .i64 0,.int .i64 0] 45) o2;have a3:=al (.cells #[.int .i64 0,.int .i64 0,.int .i64 0,.int .i64 0] 45) o3;clear al;have h0:=(h.alloc (.cells #[.int .i64 1,.int .i64 oa,.int .i64 ob,.int .i64 oc] 45)).drew;have k0:KeepM K.nb w (w.alloc (.cells #[.int .i64 1,.int .i64 oa,.int .i64 ob,.int .i64 oc] 45)).drew:=KeepM.alloc KeepM.refl _;have EN:(w.alloc (.cells #[.int .i64 1,.int .i64 oa,.int .i64 ob,.int .i64 oc] 45)).drew.heap[w.heap.size]?=_:=heap_alloc_new w (.cells #[.int .i64 1,.int .i64 oa,.int .i64 ob,.int .i64 oc] 45);generalize hM:w.heap.size=M at *;replace hM:=yay hM;replace h:=yay h;replace hok:=yay hok;replace hat:=yay hat;replace hvo:=yay hvo;replace hlen:=yay hlen;replace ha9:=yay ha9;replace ho:=yay ho;replace h0:=yay h0;replace k0:=yay k0;go_enter Try.func139,Try.ntmps139
 go_upto_region 0 with fail
 go_cut [4] (fun v wx=>v = .pointer (some ⟨M,0,none⟩)∧wx=(w.alloc (.cells #[.int .i64 1,.int .i64 oa,.int .i64 ob,.int .i64 oc] 45)).drew)
 case first =>
  go_region
  all_goals (go_wp2_with fail;go_meet)
  all_goals exact ⟨by rw [hM.out],rfl⟩
 case rest =>
  obtain ⟨rfl,rfl⟩:=hcut;clear m3 t0 t3 am3 at0 at3 a0 a1 a2 a3 o0 o1 o2 o3 hat';generalize (w.alloc (.cells #[.int .i64 1,.int .i64 oa,.int .i64 ob,.int .i64 oc] 45)).drew=w1 at *;have HB:Hid (∀ W,KeepM K.nb w1 W→W.heap[M]?=some (.cells #[.int .i64 1,.int .i64 oa,.int .i64 ob,.int .i64 oc] 45 (0,0))):=yay fun W k=>k M _ 45 EN (by decide) (by decide) (by decide) (fun z=>by
   obtain ⟨c,n1,_⟩:=h0.out.num;rw [← z,EN] at n1;simp at n1)
  have kk:Hid (KeepM K.nb w1 w1):=yay KeepM.refl;replace EN:=yay EN;have x0m3:=h0.out.cellM 3;have x0t4:=h0.out.cellT hi (k:=4) (by decide);have x0g:=HB.out _ kk.out;have x0o0:=zac x0g 0;clear x0g;simp only [tcV,yac,yaa,yab,GMc.setT_T,GMc.setT_L,GMc.setT_ser,GMc.setT_N] at x0m3 x0t4 x0o0;have x0z4:=h0.out.trow.free (i * 9+4);rw [hp] at x0t4;obtain ⟨V1,h1,k1⟩:=h0.out.setPc hi (rfl) 2;replace k1:KeepM K.nb w1 (w1.setCell ⟨K.tb,i * 9+4,none⟩ (.int .i64 2)):=kk.out.trans k1;replace h1:=yay h1;replace k1:=yay k1;go_upto_region 9 with fail
  clear x0m3 x0t4 x0o0 x0z4;generalize w1.setCell ⟨K.tb,i * 9+4,none⟩ (.int .i64 2)=w2 at *;obtain ⟨La1,Lc1,hvL1,_⟩:=id h1.out.lst;simp only [GMc.setT_L] at hvL1;have x1m0:=h1.out.cellM 0;have x1m3:=h1.out.cellM 3;have x1t5:=h1.out.cellT hi (k:=5) (by decide);simp only [tcV,yac,yaa,yab,GMc.setT_T,GMc.setT_L,GMc.setT_ser,GMc.setT_N] at x1m0 x1m3 x1t5;have x1z5:=h1.out.trow.free (i * 9+5);rw [hvL1] at x1m0;have hl1:LstN K.nb w2 (.slice La1 S.L.length Lc1) S.L:=by rw [← hvL1];exact h1.out.lst
  obtain ⟨V2,h2,k2⟩:=h1.out.setList hi (GMc.setT_T _ _ _) hl1;rw [GMc.setT_setT] at h2;replace h2:=h2.drew;replace k2:KeepM K.nb w1 ((w2.setCell ⟨K.tb,i * 9+5,none⟩ (.slice La1 S.L.length Lc1)).drew):=k1.out.trans k2;replace h2:=yay h2;replace k2:=yay k2;replace hvL1:=yay hvL1;replace hl1:=yay hl1
  go_cut [80] (fun v wy=>wy=(w2.setCell ⟨K.tb,i * 9+5,none⟩ (.slice La1 S.L.length Lc1)).drew)
  case first =>
   go_region
   all_goals (go_wp2_with fail;go_meet)
   all_goals rfl
  case rest =>
   subst hcut;clear x1m0 x1m3 x1t5 x1z5;generalize (w2.setCell ⟨K.tb,i * 9+5,none⟩ (.slice La1 S.L.length Lc1)).drew=w3 at *;have x2m1:=h2.out.cellM 1;have x2m3:=h2.out.cellM 3;have x2t6:=h2.out.cellT hi (k:=6) (by decide);simp only [tcV,yac,yaa,yab,GMc.setT_T,GMc.setT_L,GMc.setT_ser,GMc.setT_N] at x2m1 x2m3 x2t6;have x2z6:=h2.out.trow.free (i * 9+6);go_upto_region 10 with fail
   obtain ⟨V3,h3,k3⟩:=h2.out.setTSer hi (GMc.setT_T _ _ _) S.ser;rw [GMc.setT_setT] at h3;replace h3:=h3.drew;replace k3:KeepM K.nb w1 ((w3.setCell ⟨K.tb,i * 9+6,none⟩ (.int .i64 S.ser)).drew):=k2.out.trans k3;replace h3:=yay h3;replace k3:=yay k3
   go_cut [91] (fun v wy=>wy=(w3.setCell ⟨K.tb,i * 9+6,none⟩ (.int .i64 S.ser)).drew)
   case first =>
    go_region
    all_goals (go_wp2_with fail;go_meet)
    all_goals rfl
   case rest =>
    subst hcut;clear x2m1 x2m3 x2t6 x2z6;generalize (w3.setCell ⟨K.tb,i * 9+6,none⟩ (.int .i64 S.ser)).drew=w4 at *;obtain ⟨La3,Lc3,hvL3,_⟩:=id h3.out.lst;simp only [GMc.setT_L] at hvL3;have x3m0:=h3.out.cellM 0;have x3g:=HB.out _ k3.out;have x3o0:=zac x3g 0;have x3o1:=zac x3g 1;clear x3g;simp only [tcV,yac,yaa,yab,GMc.setT_T,GMc.setT_L,GMc.setT_ser,GMc.setT_N] at x3m0 x3o0 x3o1;rw [hvL3] at x3m0;have HI:Hid (IntsAt w4.drew (.slice La3 S.L.length Lc3) S.L):=yay (by
     have:=h3.out.drew.lst.ints;simp only [GMc.setT_L] at this;rw [hvL3] at this;exact this)
    replace hvL3:=yay hvL3;replace hL9:=yay hL9;replace hm:=yay hm;have HS:=yay (zke (p:=oa) HI.out hL9.out);rw [hm.out] at HS;go_upto_region 13 with fail
    go_cut [117] (fun v wy=>v = .bool true∧Below w4.heap.size w4.drew wy)
    case first =>
     go_region_with (go_at_call 177;refine HS.out.mono ?_;rintro e w' ⟨rfl,hb⟩;replace hb:=yay hb)
     all_goals (go_wp2_with fail;go_meet)
     all_goals exact ⟨rfl,hb.out⟩
    case rest =>
     obtain ⟨rfl,hbw⟩:=hcut;clear x3m0 x3o0 x3o1;obtain ⟨h4,k4⟩:=h3.out.drew.below hbw rfl;replace k4:KeepM K.nb w1 wc:=k3.out.trans k4;replace h4:=yay h4;replace k4:=yay k4;generalize wc=w5 at *;clear hbw;have HE:=yay (zbs (r:=⟨false,7,[]⟩) (h4.out) hi (by first|exact hlen.out|(simp only [GMc.setN_T,GMc.setT_T];exact hlen.out)) (by first|exact ha9.out|(simp only [GMc.setN_T,GMc.setT_T];exact ha9.out)) (LstN.nil _ _))
     go_wp2_with (go_at_call 176;refine HE.out.mono ?_;rintro e w' ⟨rfl,hdd⟩;replace hdd:=yay hdd)
     go_end0
     exact MDone.of (k0.out.trans k4.out) ⟨rfl,hdd.out⟩
theorem zl2 (h:MMem K V S w) (hi:i < K.n) (hlen:(S.T i).ans.length≤100000) (ha9:(S.T i).at_≤100000) (hat:(S.T i).at_ < (S.T i).ops.length) {ok oa ob oc:Int} (ho:opG (S.T i)=⟨ok,oa,ob,oc⟩) (hL9:S.L.length≤1000000000) (hp:(S.T i).pc=1) (hk:ok=1) (hm:decide (oa∈S.L)=false) :
  Calls Try.prog 139 #[.pointer (some ⟨K.mb,0,none⟩),.int .i64 i] w (MDone K (S.setT i { S.T i with pc:=2,list:=S.L,ser:=S.ser }) w):=by
 have hi':(i:Int) < (K.n:Int):=by omega
 have hat':((S.T i).at_:Int) < ((S.T i).ops.length:Int):=by omega
 subst hk;obtain ⟨xb,xo,xc,hvo,hok,o0,o1,o2,o3⟩:=h.opAt hi rfl hat;rw [ho] at o0 o1 o2 o3;simp only at o0 o1 o2 o3;have m3:=h.cellM 3;have t0:=h.cellT hi (k:=0) (by decide);have t3:=h.cellT hi (k:=3) (by decide);simp only [tcV,yac,yaa,yab,hvo,Nat.add_zero] at m3 t0 t3;have al:∀ {a:Addr} {v:Value} (o:Obj),w.cell? a=some v→(w.alloc o).cell? a=some v:=fun {a v} o hv=>(World.cell?_of_block (w:=w) (Below.heap_alloc _ _ _ (World.block_lt_of_cell? w _ hv))).trans hv;have am3:=al (.cells #[.int .i64 0,.int .i64 0,.int .i64 0,.int .i64 0] 45) m3;have at0:=al (.cells #[.int .i64 0,.int .i64 0,.int .i64 0,.int .i64 0] 45) t0;have at3:=al (.cells #[.int .i64 0,.int .i64 0,.int .i64 0,.int .i64 0] 45) t3;have a0:=al (.cells #[.int .i64 0,.int .i64 0,.int .i64 0,.int .i64 0] 45) o0;have a1:=al (.cells #[.int .i64 0,.int .i64 0,.int .i64 0,.int .i64 0] 45) o1;have a2:=al (.cells #[.int .i64 0,.int .i64 0,.int .i64 0,.int .i64 0] 45) o2;have a3:=al (.cells #[.int .i64 0,.int .i64 0,.int .i64 0,.int .i64 0] 45) o3;clear al;have h0:=(h.alloc (.cells #[.int .i64 1,.int .i64 oa,.int .i64 ob,.int .i64 oc] 45)).drew;have k0:KeepM K.nb w (w.alloc (.cells #[.int .i64 1,.int .i64 oa,.int .i64 ob,.int .i64 oc] 45)).drew:=KeepM.alloc KeepM.refl _;have EN:(w.alloc (.cells #[.int .i64 1,.int .i64 oa,.int .i64 ob,.int .i64 oc] 45)).drew.heap[w.heap.size]?=_:=heap_alloc_new w (.cells #[.int .i64 1,.int .i64 oa,.int .i64 ob,.int .i64 oc] 45);generalize hM:w.heap.size=M at *;replace hM:=yay hM;replace h:=yay h;replace hok:=yay hok;replace hat:=yay hat;replace hvo:=yay hvo;replace hlen:=yay hlen;replace ha9:=yay ha9;replace ho:=yay ho;replace h0:=yay h0;replace k0:=yay k0;go_enter Try.func139,Try.ntmps139
 go_upto_region 0 with fail
 go_cut [4] (fun v wx=>v = .pointer (some ⟨M,0,none⟩)∧wx=(w.alloc (.cells #[.int .i64 1,.int .i64 oa,.int .i64 ob,.int .i64 oc] 45)).drew)
 case first =>
  go_region
  all_goals (go_wp2_with fail;go_meet)
  all_goals exact ⟨by rw [hM.out],rfl⟩
 case rest =>
  obtain ⟨rfl,rfl⟩:=hcut;clear m3 t0 t3 am3 at0 at3 a0 a1 a2 a3 o0 o1 o2 o3 hat';generalize (w.alloc (.cells #[.int .i64 1,.int .i64 oa,.int .i64 ob,.int .i64 oc] 45)).drew=w1 at *;have HB:Hid (∀ W,KeepM K.nb w1 W→W.heap[M]?=some (.cells #[.int .i64 1,.int .i64 oa,.int .i64 ob,.int .i64 oc] 45 (0,0))):=yay fun W k=>k M _ 45 EN (by decide) (by decide) (by decide) (fun z=>by
   obtain ⟨c,n1,_⟩:=h0.out.num;rw [← z,EN] at n1;simp at n1)
  have kk:Hid (KeepM K.nb w1 w1):=yay KeepM.refl;replace EN:=yay EN;have x0m3:=h0.out.cellM 3;have x0t4:=h0.out.cellT hi (k:=4) (by decide);have x0g:=HB.out _ kk.out;have x0o0:=zac x0g 0;clear x0g;simp only [tcV,yac,yaa,yab,GMc.setT_T,GMc.setT_L,GMc.setT_ser,GMc.setT_N] at x0m3 x0t4 x0o0;have x0z4:=h0.out.trow.free (i * 9+4);rw [hp] at x0t4;obtain ⟨V1,h1,k1⟩:=h0.out.setPc hi (rfl) 2;replace k1:KeepM K.nb w1 (w1.setCell ⟨K.tb,i * 9+4,none⟩ (.int .i64 2)):=kk.out.trans k1;replace h1:=yay h1;replace k1:=yay k1;go_upto_region 9 with fail
  clear x0m3 x0t4 x0o0 x0z4;generalize w1.setCell ⟨K.tb,i * 9+4,none⟩ (.int .i64 2)=w2 at *;obtain ⟨La1,Lc1,hvL1,_⟩:=id h1.out.lst;simp only [GMc.setT_L] at hvL1;have x1m0:=h1.out.cellM 0;have x1m3:=h1.out.cellM 3;have x1t5:=h1.out.cellT hi (k:=5) (by decide);simp only [tcV,yac,yaa,yab,GMc.setT_T,GMc.setT_L,GMc.setT_ser,GMc.setT_N] at x1m0 x1m3 x1t5;have x1z5:=h1.out.trow.free (i * 9+5);rw [hvL1] at x1m0;have hl1:LstN K.nb w2 (.slice La1 S.L.length Lc1) S.L:=by rw [← hvL1];exact h1.out.lst
  obtain ⟨V2,h2,k2⟩:=h1.out.setList hi (GMc.setT_T _ _ _) hl1;rw [GMc.setT_setT] at h2;replace h2:=h2.drew;replace k2:KeepM K.nb w1 ((w2.setCell ⟨K.tb,i * 9+5,none⟩ (.slice La1 S.L.length Lc1)).drew):=k1.out.trans k2;replace h2:=yay h2;replace k2:=yay k2;replace hvL1:=yay hvL1;replace hl1:=yay hl1
  go_cut [80] (fun v wy=>wy=(w2.setCell ⟨K.tb,i * 9+5,none⟩ (.slice La1 S.L.length Lc1)).drew)
  case first =>
   go_region
   all_goals (go_wp2_with fail;go_meet)
   all_goals rfl
  case rest =>
   subst hcut;clear x1m0 x1m3 x1t5 x1z5;generalize (w2.setCell ⟨K.tb,i * 9+5,none⟩ (.slice La1 S.L.length Lc1)).drew=w3 at *;have x2m1:=h2.out.cellM 1;have x2m3:=h2.out.cellM 3;have x2t6:=h2.out.cellT hi (k:=6) (by decide);simp only [tcV,yac,yaa,yab,GMc.setT_T,GMc.setT_L,GMc.setT_ser,GMc.setT_N] at x2m1 x2m3 x2t6;have x2z6:=h2.out.trow.free (i * 9+6);go_upto_region 10 with fail
   obtain ⟨V3,h3,k3⟩:=h2.out.setTSer hi (GMc.setT_T _ _ _) S.ser;rw [GMc.setT_setT] at h3;replace h3:=h3.drew;replace k3:KeepM K.nb w1 ((w3.setCell ⟨K.tb,i * 9+6,none⟩ (.int .i64 S.ser)).drew):=k2.out.trans k3;replace h3:=yay h3;replace k3:=yay k3
   go_cut [91] (fun v wy=>wy=(w3.setCell ⟨K.tb,i * 9+6,none⟩ (.int .i64 S.ser)).drew)
   case first =>
    go_region
    all_goals (go_wp2_with fail;go_meet)
    all_goals rfl
   case rest =>
    subst hcut;clear x2m1 x2m3 x2t6 x2z6;generalize (w3.setCell ⟨K.tb,i * 9+6,none⟩ (.int .i64 S.ser)).drew=w4 at *;obtain ⟨La3,Lc3,hvL3,_⟩:=id h3.out.lst;simp only [GMc.setT_L] at hvL3;have x3m0:=h3.out.cellM 0;have x3g:=HB.out _ k3.out;have x3o0:=zac x3g 0;have x3o1:=zac x3g 1;clear x3g;simp only [tcV,yac,yaa,yab,GMc.setT_T,GMc.setT_L,GMc.setT_ser,GMc.setT_N] at x3m0 x3o0 x3o1;rw [hvL3] at x3m0;have HI:Hid (IntsAt w4.drew (.slice La3 S.L.length Lc3) S.L):=yay (by
     have:=h3.out.drew.lst.ints;simp only [GMc.setT_L] at this;rw [hvL3] at this;exact this)
    replace hvL3:=yay hvL3;replace hL9:=yay hL9;replace hm:=yay hm;have HS:=yay (zke (p:=oa) HI.out hL9.out);rw [hm.out] at HS;go_upto_region 13 with fail
    go_cut [117] (fun v wy=>v = .bool false∧Below w4.heap.size w4.drew wy)
    case first =>
     go_region_with (go_at_call 177;refine HS.out.mono ?_;rintro e w' ⟨rfl,hb⟩;replace hb:=yay hb)
     all_goals (go_wp2_with fail;go_meet)
     all_goals exact ⟨rfl,hb.out⟩
    case rest =>
     obtain ⟨rfl,hbw⟩:=hcut;clear x3m0 x3o0 x3o1;obtain ⟨h4,k4⟩:=h3.out.drew.below hbw rfl;replace k4:KeepM K.nb w1 wc:=k3.out.trans k4;replace h4:=yay h4;replace k4:=yay k4;generalize wc=w5 at *;clear hbw
     go_wp2_with fail
     go_end0
     exact ⟨rfl,_,h4.out,k0.out.trans k4.out⟩
theorem zi7 (h:MMem K V S w) (hi:i < K.n) (hlen:(S.T i).ans.length≤100000) (ha9:(S.T i).at_≤100000) (hat:(S.T i).at_ < (S.T i).ops.length) {ok oa ob oc:Int} (ho:opG (S.T i)=⟨ok,oa,ob,oc⟩) (hL9:S.L.length≤1000000000) (hp:(S.T i).pc=1) (hk:ok=2) (hm:decide (oa∈S.L)=true) :
  Calls Try.prog 139 #[.pointer (some ⟨K.mb,0,none⟩),.int .i64 i] w (MDone K (S.setT i { S.T i with pc:=2,list:=S.L,ser:=S.ser }) w):=by
 have hi':(i:Int) < (K.n:Int):=by omega
 have hat':((S.T i).at_:Int) < ((S.T i).ops.length:Int):=by omega
 subst hk;obtain ⟨xb,xo,xc,hvo,hok,o0,o1,o2,o3⟩:=h.opAt hi rfl hat;rw [ho] at o0 o1 o2 o3;simp only at o0 o1 o2 o3;have m3:=h.cellM 3;have t0:=h.cellT hi (k:=0) (by decide);have t3:=h.cellT hi (k:=3) (by decide);simp only [tcV,yac,yaa,yab,hvo,Nat.add_zero] at m3 t0 t3;have al:∀ {a:Addr} {v:Value} (o:Obj),w.cell? a=some v→(w.alloc o).cell? a=some v:=fun {a v} o hv=>(World.cell?_of_block (w:=w) (Below.heap_alloc _ _ _ (World.block_lt_of_cell? w _ hv))).trans hv;have am3:=al (.cells #[.int .i64 0,.int .i64 0,.int .i64 0,.int .i64 0] 45) m3;have at0:=al (.cells #[.int .i64 0,.int .i64 0,.int .i64 0,.int .i64 0] 45) t0;have at3:=al (.cells #[.int .i64 0,.int .i64 0,.int .i64 0,.int .i64 0] 45) t3;have a0:=al (.cells #[.int .i64 0,.int .i64 0,.int .i64 0,.int .i64 0] 45) o0;have a1:=al (.cells #[.int .i64 0,.int .i64 0,.int .i64 0,.int .i64 0] 45) o1;have a2:=al (.cells #[.int .i64 0,.int .i64 0,.int .i64 0,.int .i64 0] 45) o2;have a3:=al (.cells #[.int .i64 0,.int .i64 0,.int .i64 0,.int .i64 0] 45) o3;clear al;have h0:=(h.alloc (.cells #[.int .i64 2,.int .i64 oa,.int .i64 ob,.int .i64 oc] 45)).drew;have k0:KeepM K.nb w (w.alloc (.cells #[.int .i64 2,.int .i64 oa,.int .i64 ob,.int .i64 oc] 45)).drew:=KeepM.alloc KeepM.refl _;have EN:(w.alloc (.cells #[.int .i64 2,.int .i64 oa,.int .i64 ob,.int .i64 oc] 45)).drew.heap[w.heap.size]?=_:=heap_alloc_new w (.cells #[.int .i64 2,.int .i64 oa,.int .i64 ob,.int .i64 oc] 45);generalize hM:w.heap.size=M at *;replace hM:=yay hM;replace h:=yay h;replace hok:=yay hok;replace hat:=yay hat;replace hvo:=yay hvo;replace hlen:=yay hlen;replace ha9:=yay ha9;replace ho:=yay ho;replace h0:=yay h0;replace k0:=yay k0;go_enter Try.func139,Try.ntmps139
 go_upto_region 0 with fail
 go_cut [4] (fun v wx=>v = .pointer (some ⟨M,0,none⟩)∧wx=(w.alloc (.cells #[.int .i64 2,.int .i64 oa,.int .i64 ob,.int .i64 oc] 45)).drew)
 case first =>
  go_region
  all_goals (go_wp2_with fail;go_meet)
  all_goals exact ⟨by rw [hM.out],rfl⟩
 case rest =>
  obtain ⟨rfl,rfl⟩:=hcut;clear m3 t0 t3 am3 at0 at3 a0 a1 a2 a3 o0 o1 o2 o3 hat';generalize (w.alloc (.cells #[.int .i64 2,.int .i64 oa,.int .i64 ob,.int .i64 oc] 45)).drew=w1 at *;have HB:Hid (∀ W,KeepM K.nb w1 W→W.heap[M]?=some (.cells #[.int .i64 2,.int .i64 oa,.int .i64 ob,.int .i64 oc] 45 (0,0))):=yay fun W k=>k M _ 45 EN (by decide) (by decide) (by decide) (fun z=>by
   obtain ⟨c,n1,_⟩:=h0.out.num;rw [← z,EN] at n1;simp at n1)
  have kk:Hid (KeepM K.nb w1 w1):=yay KeepM.refl;replace EN:=yay EN;have x0m3:=h0.out.cellM 3;have x0t4:=h0.out.cellT hi (k:=4) (by decide);have x0g:=HB.out _ kk.out;have x0o0:=zac x0g 0;clear x0g;simp only [tcV,yac,yaa,yab,GMc.setT_T,GMc.setT_L,GMc.setT_ser,GMc.setT_N] at x0m3 x0t4 x0o0;have x0z4:=h0.out.trow.free (i * 9+4);rw [hp] at x0t4;obtain ⟨V1,h1,k1⟩:=h0.out.setPc hi (rfl) 2;replace k1:KeepM K.nb w1 (w1.setCell ⟨K.tb,i * 9+4,none⟩ (.int .i64 2)):=kk.out.trans k1;replace h1:=yay h1;replace k1:=yay k1;go_upto_region 9 with fail
  clear x0m3 x0t4 x0o0 x0z4;generalize w1.setCell ⟨K.tb,i * 9+4,none⟩ (.int .i64 2)=w2 at *;obtain ⟨La1,Lc1,hvL1,_⟩:=id h1.out.lst;simp only [GMc.setT_L] at hvL1;have x1m0:=h1.out.cellM 0;have x1m3:=h1.out.cellM 3;have x1t5:=h1.out.cellT hi (k:=5) (by decide);simp only [tcV,yac,yaa,yab,GMc.setT_T,GMc.setT_L,GMc.setT_ser,GMc.setT_N] at x1m0 x1m3 x1t5;have x1z5:=h1.out.trow.free (i * 9+5);rw [hvL1] at x1m0;have hl1:LstN K.nb w2 (.slice La1 S.L.length Lc1) S.L:=by rw [← hvL1];exact h1.out.lst
  obtain ⟨V2,h2,k2⟩:=h1.out.setList hi (GMc.setT_T _ _ _) hl1;rw [GMc.setT_setT] at h2;replace h2:=h2.drew;replace k2:KeepM K.nb w1 ((w2.setCell ⟨K.tb,i * 9+5,none⟩ (.slice La1 S.L.length Lc1)).drew):=k1.out.trans k2;replace h2:=yay h2;replace k2:=yay k2;replace hvL1:=yay hvL1;replace hl1:=yay hl1
  go_cut [80] (fun v wy=>wy=(w2.setCell ⟨K.tb,i * 9+5,none⟩ (.slice La1 S.L.length Lc1)).drew)
  case first =>
   go_region
   all_goals (go_wp2_with fail;go_meet)
   all_goals rfl
  case rest =>
   subst hcut;clear x1m0 x1m3 x1t5 x1z5;generalize (w2.setCell ⟨K.tb,i * 9+5,none⟩ (.slice La1 S.L.length Lc1)).drew=w3 at *;have x2m1:=h2.out.cellM 1;have x2m3:=h2.out.cellM 3;have x2t6:=h2.out.cellT hi (k:=6) (by decide);simp only [tcV,yac,yaa,yab,GMc.setT_T,GMc.setT_L,GMc.setT_ser,GMc.setT_N] at x2m1 x2m3 x2t6;have x2z6:=h2.out.trow.free (i * 9+6);go_upto_region 10 with fail
   obtain ⟨V3,h3,k3⟩:=h2.out.setTSer hi (GMc.setT_T _ _ _) S.ser;rw [GMc.setT_setT] at h3;replace h3:=h3.drew;replace k3:KeepM K.nb w1 ((w3.setCell ⟨K.tb,i * 9+6,none⟩ (.int .i64 S.ser)).drew):=k2.out.trans k3;replace h3:=yay h3;replace k3:=yay k3
   go_cut [91] (fun v wy=>wy=(w3.setCell ⟨K.tb,i * 9+6,none⟩ (.int .i64 S.ser)).drew)
   case first =>
    go_region
    all_goals (go_wp2_with fail;go_meet)
    all_goals rfl
   case rest =>
    subst hcut;clear x2m1 x2m3 x2t6 x2z6;generalize (w3.setCell ⟨K.tb,i * 9+6,none⟩ (.int .i64 S.ser)).drew=w4 at *;obtain ⟨La3,Lc3,hvL3,_⟩:=id h3.out.lst;simp only [GMc.setT_L] at hvL3;have x3m0:=h3.out.cellM 0;have x3g:=HB.out _ k3.out;have x3o0:=zac x3g 0;have x3o1:=zac x3g 1;clear x3g;simp only [tcV,yac,yaa,yab,GMc.setT_T,GMc.setT_L,GMc.setT_ser,GMc.setT_N] at x3m0 x3o0 x3o1;rw [hvL3] at x3m0;have HI:Hid (IntsAt w4.drew (.slice La3 S.L.length Lc3) S.L):=yay (by
     have:=h3.out.drew.lst.ints;simp only [GMc.setT_L] at this;rw [hvL3] at this;exact this)
    replace hvL3:=yay hvL3;replace hL9:=yay hL9;replace hm:=yay hm;have HS:=yay (zke (p:=oa) HI.out hL9.out);rw [hm.out] at HS;go_upto_region 22 with fail
    go_cut [176] (fun v wy=>v = .bool false∧Below w4.heap.size w4.drew wy)
    case first =>
     go_region_with (go_at_call 177;refine HS.out.mono ?_;rintro e w' ⟨rfl,hb⟩;replace hb:=yay hb)
     all_goals (go_wp2_with fail;go_meet)
     all_goals exact ⟨rfl,hb.out⟩
    case rest =>
     obtain ⟨rfl,hbw⟩:=hcut;clear x3m0 x3o0 x3o1;obtain ⟨h4,k4⟩:=h3.out.drew.below hbw rfl;replace k4:KeepM K.nb w1 wc:=k3.out.trans k4;replace h4:=yay h4;replace k4:=yay k4;generalize wc=w5 at *;clear hbw
     go_wp2_with fail
     go_end0
     exact ⟨rfl,_,h4.out,k0.out.trans k4.out⟩
theorem zkx (h:MMem K V S w) (hi:i < K.n) (hlen:(S.T i).ans.length≤100000) (ha9:(S.T i).at_≤100000) (hat:(S.T i).at_ < (S.T i).ops.length) {ok oa ob oc:Int} (ho:opG (S.T i)=⟨ok,oa,ob,oc⟩) (hL9:S.L.length≤1000000000) (hp:(S.T i).pc=1) (hk:ok=2) (hm:decide (oa∈S.L)=false) :
  Calls Try.prog 139 #[.pointer (some ⟨K.mb,0,none⟩),.int .i64 i] w (MDone K (zm1 (S.setT i { S.T i with pc:=2,list:=S.L,ser:=S.ser }) i ⟨false,6,[]⟩) w):=by
 have hi':(i:Int) < (K.n:Int):=by omega
 have hat':((S.T i).at_:Int) < ((S.T i).ops.length:Int):=by omega
 subst hk;obtain ⟨xb,xo,xc,hvo,hok,o0,o1,o2,o3⟩:=h.opAt hi rfl hat;rw [ho] at o0 o1 o2 o3;simp only at o0 o1 o2 o3;have m3:=h.cellM 3;have t0:=h.cellT hi (k:=0) (by decide);have t3:=h.cellT hi (k:=3) (by decide);simp only [tcV,yac,yaa,yab,hvo,Nat.add_zero] at m3 t0 t3;have al:∀ {a:Addr} {v:Value} (o:Obj),w.cell? a=some v→(w.alloc o).cell? a=some v:=fun {a v} o hv=>(World.cell?_of_block (w:=w) (Below.heap_alloc _ _ _ (World.block_lt_of_cell? w _ hv))).trans hv;have am3:=al (.cells #[.int .i64 0,.int .i64 0,.int .i64 0,.int .i64 0] 45) m3;have at0:=al (.cells #[.int .i64 0,.int .i64 0,.int .i64 0,.int .i64 0] 45) t0;have at3:=al (.cells #[.int .i64 0,.int .i64 0,.int .i64 0,.int .i64 0] 45) t3;have a0:=al (.cells #[.int .i64 0,.int .i64 0,.int .i64 0,.int .i64 0] 45) o0;have a1:=al (.cells #[.int .i64 0,.int .i64 0,.int .i64 0,.int .i64 0] 45) o1;have a2:=al (.cells #[.int .i64 0,.int .i64 0,.int .i64 0,.int .i64 0] 45) o2;have a3:=al (.cells #[.int .i64 0,.int .i64 0,.int .i64 0,.int .i64 0] 45) o3;clear al;have h0:=(h.alloc (.cells #[.int .i64 2,.int .i64 oa,.int .i64 ob,.int .i64 oc] 45)).drew;have k0:KeepM K.nb w (w.alloc (.cells #[.int .i64 2,.int .i64 oa,.int .i64 ob,.int .i64 oc] 45)).drew:=KeepM.alloc KeepM.refl _;have EN:(w.alloc (.cells #[.int .i64 2,.int .i64 oa,.int .i64 ob,.int .i64 oc] 45)).drew.heap[w.heap.size]?=_:=heap_alloc_new w (.cells #[.int .i64 2,.int .i64 oa,.int .i64 ob,.int .i64 oc] 45);generalize hM:w.heap.size=M at *;replace hM:=yay hM;replace h:=yay h;replace hok:=yay hok;replace hat:=yay hat;replace hvo:=yay hvo;replace hlen:=yay hlen;replace ha9:=yay ha9;replace ho:=yay ho;replace h0:=yay h0;replace k0:=yay k0;go_enter Try.func139,Try.ntmps139
 go_upto_region 0 with fail
 go_cut [4] (fun v wx=>v = .pointer (some ⟨M,0,none⟩)∧wx=(w.alloc (.cells #[.int .i64 2,.int .i64 oa,.int .i64 ob,.int .i64 oc] 45)).drew)
 case first =>
  go_region
  all_goals (go_wp2_with fail;go_meet)
  all_goals exact ⟨by rw [hM.out],rfl⟩
 case rest =>
  obtain ⟨rfl,rfl⟩:=hcut;clear m3 t0 t3 am3 at0 at3 a0 a1 a2 a3 o0 o1 o2 o3 hat';generalize (w.alloc (.cells #[.int .i64 2,.int .i64 oa,.int .i64 ob,.int .i64 oc] 45)).drew=w1 at *;have HB:Hid (∀ W,KeepM K.nb w1 W→W.heap[M]?=some (.cells #[.int .i64 2,.int .i64 oa,.int .i64 ob,.int .i64 oc] 45 (0,0))):=yay fun W k=>k M _ 45 EN (by decide) (by decide) (by decide) (fun z=>by
   obtain ⟨c,n1,_⟩:=h0.out.num;rw [← z,EN] at n1;simp at n1)
  have kk:Hid (KeepM K.nb w1 w1):=yay KeepM.refl;replace EN:=yay EN;have x0m3:=h0.out.cellM 3;have x0t4:=h0.out.cellT hi (k:=4) (by decide);have x0g:=HB.out _ kk.out;have x0o0:=zac x0g 0;clear x0g;simp only [tcV,yac,yaa,yab,GMc.setT_T,GMc.setT_L,GMc.setT_ser,GMc.setT_N] at x0m3 x0t4 x0o0;have x0z4:=h0.out.trow.free (i * 9+4);rw [hp] at x0t4;obtain ⟨V1,h1,k1⟩:=h0.out.setPc hi (rfl) 2;replace k1:KeepM K.nb w1 (w1.setCell ⟨K.tb,i * 9+4,none⟩ (.int .i64 2)):=kk.out.trans k1;replace h1:=yay h1;replace k1:=yay k1;go_upto_region 9 with fail
  clear x0m3 x0t4 x0o0 x0z4;generalize w1.setCell ⟨K.tb,i * 9+4,none⟩ (.int .i64 2)=w2 at *;obtain ⟨La1,Lc1,hvL1,_⟩:=id h1.out.lst;simp only [GMc.setT_L] at hvL1;have x1m0:=h1.out.cellM 0;have x1m3:=h1.out.cellM 3;have x1t5:=h1.out.cellT hi (k:=5) (by decide);simp only [tcV,yac,yaa,yab,GMc.setT_T,GMc.setT_L,GMc.setT_ser,GMc.setT_N] at x1m0 x1m3 x1t5;have x1z5:=h1.out.trow.free (i * 9+5);rw [hvL1] at x1m0;have hl1:LstN K.nb w2 (.slice La1 S.L.length Lc1) S.L:=by rw [← hvL1];exact h1.out.lst
  obtain ⟨V2,h2,k2⟩:=h1.out.setList hi (GMc.setT_T _ _ _) hl1;rw [GMc.setT_setT] at h2;replace h2:=h2.drew;replace k2:KeepM K.nb w1 ((w2.setCell ⟨K.tb,i * 9+5,none⟩ (.slice La1 S.L.length Lc1)).drew):=k1.out.trans k2;replace h2:=yay h2;replace k2:=yay k2;replace hvL1:=yay hvL1;replace hl1:=yay hl1
  go_cut [80] (fun v wy=>wy=(w2.setCell ⟨K.tb,i * 9+5,none⟩ (.slice La1 S.L.length Lc1)).drew)
  case first =>
   go_region
   all_goals (go_wp2_with fail;go_meet)
   all_goals rfl
  case rest =>
   subst hcut;clear x1m0 x1m3 x1t5 x1z5;generalize (w2.setCell ⟨K.tb,i * 9+5,none⟩ (.slice La1 S.L.length Lc1)).drew=w3 at *;have x2m1:=h2.out.cellM 1;have x2m3:=h2.out.cellM 3;have x2t6:=h2.out.cellT hi (k:=6) (by decide);simp only [tcV,yac,yaa,yab,GMc.setT_T,GMc.setT_L,GMc.setT_ser,GMc.setT_N] at x2m1 x2m3 x2t6;have x2z6:=h2.out.trow.free (i * 9+6);go_upto_region 10 with fail
   obtain ⟨V3,h3,k3⟩:=h2.out.setTSer hi (GMc.setT_T _ _ _) S.ser;rw [GMc.setT_setT] at h3;replace h3:=h3.drew;replace k3:KeepM K.nb w1 ((w3.setCell ⟨K.tb,i * 9+6,none⟩ (.int .i64 S.ser)).drew):=k2.out.trans k3;replace h3:=yay h3;replace k3:=yay k3
   go_cut [91] (fun v wy=>wy=(w3.setCell ⟨K.tb,i * 9+6,none⟩ (.int .i64 S.ser)).drew)
   case first =>
    go_region
    all_goals (go_wp2_with fail;go_meet)
    all_goals rfl
   case rest =>
    subst hcut;clear x2m1 x2m3 x2t6 x2z6;generalize (w3.setCell ⟨K.tb,i * 9+6,none⟩ (.int .i64 S.ser)).drew=w4 at *;obtain ⟨La3,Lc3,hvL3,_⟩:=id h3.out.lst;simp only [GMc.setT_L] at hvL3;have x3m0:=h3.out.cellM 0;have x3g:=HB.out _ k3.out;have x3o0:=zac x3g 0;have x3o1:=zac x3g 1;clear x3g;simp only [tcV,yac,yaa,yab,GMc.setT_T,GMc.setT_L,GMc.setT_ser,GMc.setT_N] at x3m0 x3o0 x3o1;rw [hvL3] at x3m0;have HI:Hid (IntsAt w4.drew (.slice La3 S.L.length Lc3) S.L):=yay (by
     have:=h3.out.drew.lst.ints;simp only [GMc.setT_L] at this;rw [hvL3] at this;exact this)
    replace hvL3:=yay hvL3;replace hL9:=yay hL9;replace hm:=yay hm;have HS:=yay (zke (p:=oa) HI.out hL9.out);rw [hm.out] at HS;go_upto_region 22 with fail
    go_cut [176] (fun v wy=>v = .bool true∧Below w4.heap.size w4.drew wy)
    case first =>
     go_region_with (go_at_call 177;refine HS.out.mono ?_;rintro e w' ⟨rfl,hb⟩;replace hb:=yay hb)
     all_goals (go_wp2_with fail;go_meet)
     all_goals exact ⟨rfl,hb.out⟩
    case rest =>
     obtain ⟨rfl,hbw⟩:=hcut;clear x3m0 x3o0 x3o1;obtain ⟨h4,k4⟩:=h3.out.drew.below hbw rfl;replace k4:KeepM K.nb w1 wc:=k3.out.trans k4;replace h4:=yay h4;replace k4:=yay k4;generalize wc=w5 at *;clear hbw;have HE:=yay (zbs (r:=⟨false,6,[]⟩) (h4.out) hi (by first|exact hlen.out|(simp only [GMc.setN_T,GMc.setT_T];exact hlen.out)) (by first|exact ha9.out|(simp only [GMc.setN_T,GMc.setT_T];exact ha9.out)) (LstN.nil _ _))
     go_wp2_with (go_at_call 176;refine HE.out.mono ?_;rintro e w' ⟨rfl,hdd⟩;replace hdd:=yay hdd)
     go_end0
     exact MDone.of (k0.out.trans k4.out) ⟨rfl,hdd.out⟩
end
end Go.Proofs.Ytofacoojpgkbiaa
