/-
  A part of a proof. No condition of its own.
-/
import Derived.Test.YtofacoojpgkbiaaCalsP28
set_option linter.unusedVariables false
set_option maxHeartbeats 8000000
set_option linter.unusedSimpArgs false
namespace Go.Proofs.Ytofacoojpgkbiaa
open Go.Conc Go.RowKit
open Go.ConcN (upd upd_ne upd_same)
set_option maxRecDepth 100000
section
variable {K:MK} {V:MV} {S:GMc} {w:World} {i:Nat}
theorem zmo (h:MMem K V S w) (hi:i < K.n) (hlen:(S.T i).ans.length≤100000) (hat:(S.T i).at_≤100000) {ok oa ob oc pc:Int} (h1:1≤pc) (h2:pc≤(S.T i).list.length+1) (hx:∀ x∈(S.T i).list,0≤x∧x < 64) (hl:(S.T i).list.length≤1000000) :
  Calls Try.prog 180 #[.pointer (some ⟨K.mb,0,none⟩),.int .i64 i,.agg #[.int .i64 ok,.int .i64 oa,.int .i64 ob,.int .i64 oc],.int .i64 pc] w (MDone K (zeg S i ⟨ok,oa,ob,oc⟩ pc) w):=by
 by_cases e1:pc=1
 ·by_cases e2:0 < (S.T i).list.length
  ·have:zeg S i ⟨ok,oa,ob,oc⟩ pc=S:=by unfold zeg;rw [if_pos e1,if_pos e2]
   rw [this];exact zwo h hi hlen hat e1 e2
  ·have hn:(S.T i).list=[]:=List.length_eq_zero_iff.1 (by omega);by_cases e3:ok=6
   ·have:zeg S i ⟨ok,oa,ob,oc⟩ pc=(S.setT i { S.T i with place := -1,least:=oa }).setT i (zdw ((S.setT i { S.T i with place := -1,least:=oa }).T i) ⟨true,oa,[-1]⟩):=by
     unfold zeg zfa;rw [if_pos e1,if_neg e2,if_pos (show (OpD.mk ok oa ob oc).kind=6 from e3),GMc.setT_T]
    rw [this];exact zt2 h hi hlen hat e1 hn e3
   ·have:zeg S i ⟨ok,oa,ob,oc⟩ pc=(S.setT i { S.T i with place := -1,least:=oa }).setT i (zdw ((S.setT i { S.T i with place := -1,least:=oa }).T i) ⟨true,-1,[]⟩):=by
     unfold zeg zfa;rw [if_pos e1,if_neg e2,if_neg (show ¬ (OpD.mk ok oa ob oc).kind=6 from e3),if_pos (.inl (by rw [GMc.setT_T];show (S.T i).list.length=0;omega))]
    rw [this];exact zwp h hi hlen hat e1 hn (by simp [e3])
 ·obtain ⟨j,hj⟩:∃ j:Nat,pc=(j:Int)+2:=⟨(pc - 2).toNat,by omega⟩;have hjl:j < (S.T i).list.length:=by omega
  have hmem:=List.getElem_mem hjl;obtain ⟨p1,p2⟩:=hx _ hmem;obtain ⟨pn,hpn⟩:∃ n:Nat,(S.T i).list[j]=(n:Int):=⟨(S.T i).list[j].toNat,by omega⟩;have hg:(S.T i).list[j]?=some (pn:Int):=by rw [List.getElem?_eq_getElem hjl,hpn]
  have hw2:IntKind.i64.wrap (pc - 2)=(j:Int):=by rw [IntKind.wrap_i64];omega
  have hw1:IntKind.i64.wrap (pc - 1)=(j:Int)+1:=by rw [IntKind.wrap_i64];omega
  have c1:(pc==1)=false:=by simp;exact e1
  have c2:decide (1 < pc)=true:=decide_eq_true (by omega);have eD:(S.T i).list.getD (pc - 2).toNat 0=(pn:Int):=by
   rw [show (pc - 2).toNat=j by omega,List.getD_eq_getElem?_getD,hg];rfl
  have eN:S.N ((pn:Int)).toNat=S.N pn:=by rw [show ((pn:Int)).toNat=pn by omega]
  have eL:zeg S i ⟨ok,oa,ob,oc⟩ pc=if pc - 1 < ((if pc=2∨S.N pn < (S.T i).least then S.setT i { S.T i with least:=S.N pn,place:=(pn:Int) } else S).T i).list.length then (if pc=2∨S.N pn < (S.T i).least then S.setT i { S.T i with least:=S.N pn,place:=(pn:Int) } else S) else zfa (if pc=2∨S.N pn < (S.T i).least then S.setT i { S.T i with least:=S.N pn,place:=(pn:Int) } else S) i ⟨ok,oa,ob,oc⟩:=by
   have hlen2:((if pc=2∨S.N pn < (S.T i).least then S.setT i { S.T i with least:=S.N pn,place:=(pn:Int) } else S).T i).list.length=(S.T i).list.length:=by
    split
    ·rw [GMc.setT_T]
    ·rfl
   rw [hlen2];unfold zeg;rw [if_neg e1];simp only [eD,eN]
  have hpn64:pn < 64:=by omega
  rw [eL];clear eL eD eN;by_cases s1:pc=2∨S.N pn < (S.T i).least
  ·rw [if_pos s1,GMc.setT_T];by_cases s2:pc - 1 < ((S.T i).list.length:Int)
   ·rw [if_pos s2];by_cases s3:pc=2
    ·exact zws h hi hlen hat hw2 hw1 c1 c2 hg hpn64 (by simp [s3]) (by omega)
    ·exact zwr h hi hlen hat hw2 hw1 c1 c2 hg hpn64 (by simp [s3]) (decide_eq_true (s1.resolve_left s3)) (by omega)
   ·rw [if_neg s2];unfold zfa;rw [GMc.setT_T];by_cases e3:ok=6
    ·rw [if_pos (show (OpD.mk ok oa ob oc).kind=6 from e3)]
     by_cases s3:pc=2
     ·have:=zt9 h hi hlen hat hw2 hw1 c1 c2 hg hpn64 (by simp [s3]) (by omega) e3 (oa:=oa) (ob:=ob) (oc:=oc);rw [GMc.setT_T] at this;exact this
     ·have:=zt6 h hi hlen hat hw2 hw1 c1 c2 hg hpn64 (by simp [s3]) (decide_eq_true (s1.resolve_left s3)) (by omega) e3 (oa:=oa) (ob:=ob) (oc:=oc);rw [GMc.setT_T] at this;exact this
    ·rw [if_neg (show ¬ (OpD.mk ok oa ob oc).kind=6 from e3)]
     by_cases s4:zdz (S.N pn) oa ob=true
     ·rw [if_pos (.inr s4)];by_cases s3:pc=2
      ·have:=zub h hi hlen hat hw2 hw1 c1 c2 hg hpn64 (by simp [s3]) (by omega) (by simp [e3]) s4 (ok:=ok) (oa:=oa) (ob:=ob) (oc:=oc);rw [GMc.setT_T] at this;exact this
      ·have:=zt8 h hi hlen hat hw2 hw1 c1 c2 hg hpn64 (by simp [s3]) (decide_eq_true (s1.resolve_left s3)) (by omega) (by simp [e3]) s4 (ok:=ok) (oa:=oa) (ob:=ob) (oc:=oc);rw [GMc.setT_T] at this;exact this
     ·rw [if_neg (fun q=>q.elim (fun q=>by have q':(S.T i).list.length=0:=q;omega) s4)];have s4':zdz (S.N pn) oa ob=false:=by simpa using s4
      by_cases s3:pc=2
      ·have:=zua h hi hlen hat hw2 hw1 c1 c2 hg hpn64 (by simp [s3]) (by omega) (by simp [e3]) s4' (ok:=ok) (oa:=oa) (ob:=ob) (oc:=oc);rw [GMc.setT_T] at this;exact this
      ·have:=zt7 h hi hlen hat hw2 hw1 c1 c2 hg hpn64 (by simp [s3]) (decide_eq_true (s1.resolve_left s3)) (by omega) (by simp [e3]) s4' (ok:=ok) (oa:=oa) (ob:=ob) (oc:=oc);rw [GMc.setT_T] at this;exact this
  ·rw [if_neg s1];have s3:(pc==2)=false:=by simp;exact fun q=>s1 (.inl q)
   have s5:decide (S.N pn < (S.T i).least)=false:=decide_eq_false fun q=>s1 (.inr q);by_cases s2:pc - 1 < ((S.T i).list.length:Int)
   ·rw [if_pos s2];exact zwq h hi hlen hat hw2 hw1 c1 c2 hg hpn64 s3 s5 (by omega)
   ·rw [if_neg s2];unfold zfa;by_cases e3:ok=6
    ·rw [if_pos (show (OpD.mk ok oa ob oc).kind=6 from e3)]
     exact zt3 h hi hlen hat hw2 hw1 c1 c2 hg hpn64 s3 s5 (by omega) e3
    ·rw [if_neg (show ¬ (OpD.mk ok oa ob oc).kind=6 from e3)]
     by_cases s4:zdz (S.T i).least oa ob=true
     ·rw [if_pos (.inr s4)];exact zt5 (ok:=ok) (oa:=oa) (ob:=ob) (oc:=oc) h hi hlen hat hw2 hw1 c1 c2 hg hpn64 s3 s5 (by omega) (by simp [e3]) s4
     ·rw [if_neg (fun q=>q.elim (fun q=>by omega) s4)];exact zt4 (ok:=ok) (oa:=oa) (ob:=ob) (oc:=oc) h hi hlen hat hw2 hw1 c1 c2 hg hpn64 s3 s5 (by omega) (by simp [e3]) (by simpa using s4)
theorem zjd (hM:MMem K V S w) {N:Nat} (hN:w.heap.size=N) {wz:World} (hb:Below N w wz) {v:Value} {n:Nat} {l:List Int} (hr:wz.ownsRow N 2 1 v n (zaw l)):MMem K V S wz∧KeepM K.nb w wz∧LstN K.nb wz v l:=by
 obtain ⟨h1,h2⟩:=hM.below hb hN;refine ⟨h1,h2,.of_row hr fun g hg=>?_⟩;have:=(zbc hr hg).1;obtain ⟨c,n1,_⟩:=hM.num;have:=(yah.1 n1).1;omega
end
section
variable {K:MK} {V:MV} {S:GMc} {w:World} {i:Nat}
theorem ztf (h:MMem K V S w) (hi:i < K.n) (hlen:(S.T i).ans.length≤100000) (ha9:(S.T i).at_≤100000) (hat:(S.T i).at_ < (S.T i).ops.length) {ok oa ob oc:Int} (ho:opG (S.T i)=⟨ok,oa,ob,oc⟩) (hl9:(S.T i).list.length≤1000000) (hsr:0≤S.ser∧S.ser≤4611686018427387904) (hp:(S.T i).pc=3) (hk:ok=1) :
  Calls Try.prog 139 #[.pointer (some ⟨K.mb,0,none⟩),.int .i64 i] w (MDone K (zl5 (S.setT i { S.T i with pc:=4 }) i ((S.T i).list++[oa])) w):=by
 have hi':(i:Int) < (K.n:Int):=by omega
 have hat':((S.T i).at_:Int) < ((S.T i).ops.length:Int):=by omega
 subst hk;obtain ⟨i1,hi1,hz1,hz11,hz12⟩:=info_parts zij;obtain ⟨xb,xo,xc,hvo,hok,o0,o1,o2,o3⟩:=h.opAt hi rfl hat;rw [ho] at o0 o1 o2 o3;simp only at o0 o1 o2 o3;have m3:=h.cellM 3;have t0:=h.cellT hi (k:=0) (by decide);have t3:=h.cellT hi (k:=3) (by decide);simp only [tcV,yac,yaa,yab,hvo,Nat.add_zero] at m3 t0 t3;have al:∀ {a:Addr} {v:Value} (o:Obj),w.cell? a=some v→(w.alloc o).cell? a=some v:=fun {a v} o hv=>(World.cell?_of_block (w:=w) (Below.heap_alloc _ _ _ (World.block_lt_of_cell? w _ hv))).trans hv;have am3:=al (.cells #[.int .i64 0,.int .i64 0,.int .i64 0,.int .i64 0] 45) m3;have at0:=al (.cells #[.int .i64 0,.int .i64 0,.int .i64 0,.int .i64 0] 45) t0;have at3:=al (.cells #[.int .i64 0,.int .i64 0,.int .i64 0,.int .i64 0] 45) t3;have a0:=al (.cells #[.int .i64 0,.int .i64 0,.int .i64 0,.int .i64 0] 45) o0;have a1:=al (.cells #[.int .i64 0,.int .i64 0,.int .i64 0,.int .i64 0] 45) o1;have a2:=al (.cells #[.int .i64 0,.int .i64 0,.int .i64 0,.int .i64 0] 45) o2;have a3:=al (.cells #[.int .i64 0,.int .i64 0,.int .i64 0,.int .i64 0] 45) o3;clear al;have h0:=(h.alloc (.cells #[.int .i64 1,.int .i64 oa,.int .i64 ob,.int .i64 oc] 45)).drew;have k0:KeepM K.nb w (w.alloc (.cells #[.int .i64 1,.int .i64 oa,.int .i64 ob,.int .i64 oc] 45)).drew:=KeepM.alloc KeepM.refl _;have EN:(w.alloc (.cells #[.int .i64 1,.int .i64 oa,.int .i64 ob,.int .i64 oc] 45)).drew.heap[w.heap.size]?=_:=heap_alloc_new w (.cells #[.int .i64 1,.int .i64 oa,.int .i64 ob,.int .i64 oc] 45);generalize hM:w.heap.size=M at *;replace hM:=yay hM;replace h:=yay h;replace hok:=yay hok;replace hat:=yay hat;replace hvo:=yay hvo;replace hlen:=yay hlen;replace ha9:=yay ha9;replace ho:=yay ho;replace h0:=yay h0;replace k0:=yay k0;go_enter Try.func139,Try.ntmps139
 go_upto_region 0 with fail
 go_cut [4] (fun v wx=>v = .pointer (some ⟨M,0,none⟩)∧wx=(w.alloc (.cells #[.int .i64 1,.int .i64 oa,.int .i64 ob,.int .i64 oc] 45)).drew)
 case first =>
  go_region
  all_goals (go_wp2_with fail;go_meet)
  all_goals exact ⟨by rw [hM.out],rfl⟩
 case rest =>
  obtain ⟨rfl,rfl⟩:=hcut;clear m3 t0 t3 am3 at0 at3 a0 a1 a2 a3 o0 o1 o2 o3 hat';generalize (w.alloc (.cells #[.int .i64 1,.int .i64 oa,.int .i64 ob,.int .i64 oc] 45)).drew=w1 at *;have HB:Hid (∀ W,KeepM K.nb w1 W→W.heap[M]?=some (.cells #[.int .i64 1,.int .i64 oa,.int .i64 ob,.int .i64 oc] 45 (0,0))):=yay fun W k=>k M _ 45 EN (by decide) (by decide) (by decide) (fun z=>by
   obtain ⟨c,n1,_⟩:=h0.out.num;rw [← z,EN] at n1;simp at n1)
  have kk:Hid (KeepM K.nb w1 w1):=yay KeepM.refl;replace EN:=yay EN;have x0m3:=h0.out.cellM 3;have x0t4:=h0.out.cellT hi (k:=4) (by decide);have x0g:=HB.out _ kk.out;have x0o0:=zac x0g 0;clear x0g;simp only [tcV,yac,yaa,yab,GMc.setT_T,GMc.setT_L,GMc.setT_ser,GMc.setT_N] at x0m3 x0t4 x0o0;have x0z4:=h0.out.trow.free (i * 9+4);rw [hp] at x0t4;obtain ⟨V1,h1,k1⟩:=h0.out.setPc hi (rfl) 4;replace k1:KeepM K.nb w1 (w1.setCell ⟨K.tb,i * 9+4,none⟩ (.int .i64 4)):=kk.out.trans k1;replace h1:=yay h1;replace k1:=yay k1;go_upto_region 18 with fail
  clear x0m3 x0t4 x0o0 x0z4;generalize w1.setCell ⟨K.tb,i * 9+4,none⟩ (.int .i64 4)=w2 at *;have hk1:=h1.out.vls i hi;simp only [GMc.setT_T] at hk1;obtain ⟨Ka1,Kc1,hvK1,_⟩:=id hk1;rw [hvK1] at hk1;have x1m3:=h1.out.cellM 3;have x1t5:=h1.out.cellT hi (k:=5) (by decide);have x1g:=HB.out _ k1.out;have x1o1:=zac x1g 1;clear x1g;simp only [tcV,yac,yaa,yab,GMc.setT_T,GMc.setT_L,GMc.setT_ser,GMc.setT_N] at x1m3 x1t5 x1o1;rw [hvK1] at x1t5;have HS0:=yay (zk1 hk1);obtain ⟨N9,hN9⟩:∃ N,w2.heap.size=N:=⟨_,rfl⟩;replace hN9:=yay hN9;replace hl9:=yay hl9;replace hsr:=yay hsr;replace hk1:=yay hk1;replace hvK1:=yay hvK1;go_upto_region 20 with (at_builtin;(refine zas rfl (.tmp 143) (.tmp 151) 22 rfl N9 2 i1 _ _ Try.underlying22 hi1 hz1 hz11 hz12 rfl (.slice none 0 0) 0 [] rfl (World.ownsRow_nil _ _ _ _) (S.T i).list.length _ HS0.out ?l2 ?b2 ?n2 ?_);(case l2=>(unfold maxLen;have:=hl9.out;omega));(case b2=>(have:=hl9.out;omega));(case n2=>(have:=hN9.out;simp;omega));intro v' wq ha;obtain ⟨ho,hg,hsh⟩:=ha;have HH:=yay ho;have HBq:=yay (zbu (World.ownsRow_nil w2 N9 2 1) (Below.refl N9 w2) (by rw [hN9.out];exact yax _) hg);clear ho hg hsh)
  obtain ⟨vp,vcc,rfl⟩:=zbg HH.out;obtain ⟨h8,k8⟩:=h1.out.below HBq.out hN9.out;replace k8:KeepM K.nb w1 wq:=k1.out.trans k8;clear x1m3 x1t5 x1o1;replace h8:=yay h8;replace k8:=yay k8;have x1g:=HB.out _ k8.out;have x1o1:=zac x1g 1;clear x1g;simp only [tcV,yac,yaa,yab,GMc.setT_T,GMc.setT_L,GMc.setT_ser,GMc.setT_N] at x1o1;have HSx:=yay (zfw wq oa 2);have HO1:=yay (HH.out.alloc (.cells #[.int .i64 oa] 2));have hq9:Hid (N9≤wq.heap.size):=yay (by have:=HBq.out.size;have:=hN9.out;omega);have HBa:=yay (HBq.out.alloc hq9.out (.cells #[.int .i64 oa] 2))
  go_wp2_with (first
   | (at_builtin;(refine zas rfl (.tmp 155) (.tmp 158) 22 rfl N9 2 i1 _ _ Try.underlying22 hi1 hz1 hz11 hz12 rfl (.slice vp (0+(S.T i).list.length) vcc) (0+(S.T i).list.length) _ rfl HO1.out 1 _ HSx.out ?l2 ?b2 ?n2 ?_);(case l2=>(unfold maxLen;have:=hl9.out;omega));(case b2=>(have:=hl9.out;omega));(case n2=>(have:=hq9.out;simp;omega));intro v' wq ha;obtain ⟨ho,hg,hsh⟩:=ha;have HZ:=yay (zjd (l:=(S.T i).list++[oa]) h1.out hN9.out (zbu HO1.out HBa.out (by have:=hq9.out;simp;omega) hg) (by rw [zd4];exact ho));have HM:=yay HZ.out.1;have HK:=yay (k1.out.trans HZ.out.2.1);have HU:=yay HZ.out.2.2;clear ho hg hsh HZ)
   | (go_at_call 178;refine (zpl HM.out hi (by simp only [GMc.setT_T];exact hlen.out) (by simp only [GMc.setT_T];exact ha9.out) hsr.out HU.out).mono ?_;rintro e w' ⟨rfl,hdd⟩;replace hdd:=yay hdd))
  go_end0
  exact MDone.of (k0.out.trans HK.out) ⟨rfl,hdd.out⟩
theorem zqt (h:MMem K V S w) (hi:i < K.n) (hlen:(S.T i).ans.length≤100000) (ha9:(S.T i).at_≤100000) (hat:(S.T i).at_ < (S.T i).ops.length) {ok oa ob oc:Int} (ho:opG (S.T i)=⟨ok,oa,ob,oc⟩) (hl9:(S.T i).list.length≤1000000) (hsr:0≤S.ser∧S.ser≤4611686018427387904) (hp:(S.T i).pc=2) (hk:ok=2) :
  Calls Try.prog 139 #[.pointer (some ⟨K.mb,0,none⟩),.int .i64 i] w (MDone K (zl5 (S.setT i { S.T i with pc:=3 }) i (zca (S.T i).list oa)) w):=by
 have hi':(i:Int) < (K.n:Int):=by omega
 have hat':((S.T i).at_:Int) < ((S.T i).ops.length:Int):=by omega
 subst hk;obtain ⟨xb,xo,xc,hvo,hok,o0,o1,o2,o3⟩:=h.opAt hi rfl hat;rw [ho] at o0 o1 o2 o3;simp only at o0 o1 o2 o3;have m3:=h.cellM 3;have t0:=h.cellT hi (k:=0) (by decide);have t3:=h.cellT hi (k:=3) (by decide);simp only [tcV,yac,yaa,yab,hvo,Nat.add_zero] at m3 t0 t3;have al:∀ {a:Addr} {v:Value} (o:Obj),w.cell? a=some v→(w.alloc o).cell? a=some v:=fun {a v} o hv=>(World.cell?_of_block (w:=w) (Below.heap_alloc _ _ _ (World.block_lt_of_cell? w _ hv))).trans hv;have am3:=al (.cells #[.int .i64 0,.int .i64 0,.int .i64 0,.int .i64 0] 45) m3;have at0:=al (.cells #[.int .i64 0,.int .i64 0,.int .i64 0,.int .i64 0] 45) t0;have at3:=al (.cells #[.int .i64 0,.int .i64 0,.int .i64 0,.int .i64 0] 45) t3;have a0:=al (.cells #[.int .i64 0,.int .i64 0,.int .i64 0,.int .i64 0] 45) o0;have a1:=al (.cells #[.int .i64 0,.int .i64 0,.int .i64 0,.int .i64 0] 45) o1;have a2:=al (.cells #[.int .i64 0,.int .i64 0,.int .i64 0,.int .i64 0] 45) o2;have a3:=al (.cells #[.int .i64 0,.int .i64 0,.int .i64 0,.int .i64 0] 45) o3;clear al;have h0:=(h.alloc (.cells #[.int .i64 2,.int .i64 oa,.int .i64 ob,.int .i64 oc] 45)).drew;have k0:KeepM K.nb w (w.alloc (.cells #[.int .i64 2,.int .i64 oa,.int .i64 ob,.int .i64 oc] 45)).drew:=KeepM.alloc KeepM.refl _;have EN:(w.alloc (.cells #[.int .i64 2,.int .i64 oa,.int .i64 ob,.int .i64 oc] 45)).drew.heap[w.heap.size]?=_:=heap_alloc_new w (.cells #[.int .i64 2,.int .i64 oa,.int .i64 ob,.int .i64 oc] 45);generalize hM:w.heap.size=M at *;replace hM:=yay hM;replace h:=yay h;replace hok:=yay hok;replace hat:=yay hat;replace hvo:=yay hvo;replace hlen:=yay hlen;replace ha9:=yay ha9;replace ho:=yay ho;replace h0:=yay h0;replace k0:=yay k0;go_enter Try.func139,Try.ntmps139
 go_upto_region 0 with fail
 go_cut [4] (fun v wx=>v = .pointer (some ⟨M,0,none⟩)∧wx=(w.alloc (.cells #[.int .i64 2,.int .i64 oa,.int .i64 ob,.int .i64 oc] 45)).drew)
 case first =>
  go_region
  all_goals (go_wp2_with fail;go_meet)
  all_goals exact ⟨by rw [hM.out],rfl⟩
 case rest =>
  obtain ⟨rfl,rfl⟩:=hcut;clear m3 t0 t3 am3 at0 at3 a0 a1 a2 a3 o0 o1 o2 o3 hat';generalize (w.alloc (.cells #[.int .i64 2,.int .i64 oa,.int .i64 ob,.int .i64 oc] 45)).drew=w1 at *;have HB:Hid (∀ W,KeepM K.nb w1 W→W.heap[M]?=some (.cells #[.int .i64 2,.int .i64 oa,.int .i64 ob,.int .i64 oc] 45 (0,0))):=yay fun W k=>k M _ 45 EN (by decide) (by decide) (by decide) (fun z=>by
   obtain ⟨c,n1,_⟩:=h0.out.num;rw [← z,EN] at n1;simp at n1)
  have kk:Hid (KeepM K.nb w1 w1):=yay KeepM.refl;replace EN:=yay EN;have x0m3:=h0.out.cellM 3;have x0t4:=h0.out.cellT hi (k:=4) (by decide);have x0g:=HB.out _ kk.out;have x0o0:=zac x0g 0;clear x0g;simp only [tcV,yac,yaa,yab,GMc.setT_T,GMc.setT_L,GMc.setT_ser,GMc.setT_N] at x0m3 x0t4 x0o0;have x0z4:=h0.out.trow.free (i * 9+4);rw [hp] at x0t4;obtain ⟨V1,h1,k1⟩:=h0.out.setPc hi (rfl) 3;replace k1:KeepM K.nb w1 (w1.setCell ⟨K.tb,i * 9+4,none⟩ (.int .i64 3)):=kk.out.trans k1;replace h1:=yay h1;replace k1:=yay k1;go_upto_region 25 with fail
  clear x0m3 x0t4 x0o0 x0z4;generalize w1.setCell ⟨K.tb,i * 9+4,none⟩ (.int .i64 3)=w2 at *;have hk1:=h1.out.vls i hi;simp only [GMc.setT_T] at hk1;obtain ⟨Ka1,Kc1,hvK1,_⟩:=id hk1;rw [hvK1] at hk1;have x1m3:=h1.out.cellM 3;have x1t5:=h1.out.cellT hi (k:=5) (by decide);have x1g:=HB.out _ k1.out;have x1o1:=zac x1g 1;clear x1g;simp only [tcV,yac,yaa,yab,GMc.setT_T,GMc.setT_L,GMc.setT_ser,GMc.setT_N] at x1m3 x1t5 x1o1;rw [hvK1] at x1t5;have HI:Hid (IntsAt w2.drew (.slice Ka1 (S.T i).list.length Kc1) (S.T i).list):=yay (show IntsAt w2 _ _ from hk1.ints)
  replace hl9:=yay hl9;replace hsr:=yay hsr;replace hk1:=yay hk1;replace hvK1:=yay hvK1;have HS:=yay (zon (p:=oa) HI.out (by have:=hl9.out;omega))
  go_region_with (first
   | (go_at_call 179;refine HS.out.mono ?_;rintro e wq ⟨v',rfl,hr,hb⟩;have HZ:=yay (zjd h1.out.drew rfl hb hr);have HM:=yay HZ.out.1;have HK:=yay (k1.out.trans (show KeepM K.nb w2 wq from HZ.out.2.1));have HU:=yay HZ.out.2.2;clear hr hb HZ)
   | (go_at_call 178;refine (zpl HM.out hi (by simp only [GMc.setT_T];exact hlen.out) (by simp only [GMc.setT_T];exact ha9.out) hsr.out HU.out).mono ?_;rintro e w' ⟨rfl,hdd⟩;replace hdd:=yay hdd))
  all_goals go_end0
  all_goals exact MDone.of (k0.out.trans HK.out) ⟨rfl,hdd.out⟩
theorem zvp (h:MMem K V S w) (hi:i < K.n) (hlen:(S.T i).ans.length≤100000) (ha9:(S.T i).at_≤100000) (hat:(S.T i).at_ < (S.T i).ops.length) {ok oa ob oc:Int} (ho:opG (S.T i)=⟨ok,oa,ob,oc⟩) (hl9:S.L.length≤1000000) (hp:(S.T i).pc=1) (hk:ok=5) :
  Calls Try.prog 139 #[.pointer (some ⟨K.mb,0,none⟩),.int .i64 i] w (MDone K (zm1 (S.setT i { S.T i with pc:=2,list:=S.L,ser:=S.ser }) i ⟨true,0,S.L⟩) w):=by
 have hi':(i:Int) < (K.n:Int):=by omega
 have hat':((S.T i).at_:Int) < ((S.T i).ops.length:Int):=by omega
 subst hk;obtain ⟨i1,hi1,hz1,hz11,hz12⟩:=info_parts zij;obtain ⟨xb,xo,xc,hvo,hok,o0,o1,o2,o3⟩:=h.opAt hi rfl hat;rw [ho] at o0 o1 o2 o3;simp only at o0 o1 o2 o3;have m3:=h.cellM 3;have t0:=h.cellT hi (k:=0) (by decide);have t3:=h.cellT hi (k:=3) (by decide);simp only [tcV,yac,yaa,yab,hvo,Nat.add_zero] at m3 t0 t3;have al:∀ {a:Addr} {v:Value} (o:Obj),w.cell? a=some v→(w.alloc o).cell? a=some v:=fun {a v} o hv=>(World.cell?_of_block (w:=w) (Below.heap_alloc _ _ _ (World.block_lt_of_cell? w _ hv))).trans hv;have am3:=al (.cells #[.int .i64 0,.int .i64 0,.int .i64 0,.int .i64 0] 45) m3;have at0:=al (.cells #[.int .i64 0,.int .i64 0,.int .i64 0,.int .i64 0] 45) t0;have at3:=al (.cells #[.int .i64 0,.int .i64 0,.int .i64 0,.int .i64 0] 45) t3;have a0:=al (.cells #[.int .i64 0,.int .i64 0,.int .i64 0,.int .i64 0] 45) o0;have a1:=al (.cells #[.int .i64 0,.int .i64 0,.int .i64 0,.int .i64 0] 45) o1;have a2:=al (.cells #[.int .i64 0,.int .i64 0,.int .i64 0,.int .i64 0] 45) o2;have a3:=al (.cells #[.int .i64 0,.int .i64 0,.int .i64 0,.int .i64 0] 45) o3;clear al;have h0:=(h.alloc (.cells #[.int .i64 5,.int .i64 oa,.int .i64 ob,.int .i64 oc] 45)).drew;have k0:KeepM K.nb w (w.alloc (.cells #[.int .i64 5,.int .i64 oa,.int .i64 ob,.int .i64 oc] 45)).drew:=KeepM.alloc KeepM.refl _;have EN:(w.alloc (.cells #[.int .i64 5,.int .i64 oa,.int .i64 ob,.int .i64 oc] 45)).drew.heap[w.heap.size]?=_:=heap_alloc_new w (.cells #[.int .i64 5,.int .i64 oa,.int .i64 ob,.int .i64 oc] 45);generalize hM:w.heap.size=M at *;replace hM:=yay hM;replace h:=yay h;replace hok:=yay hok;replace hat:=yay hat;replace hvo:=yay hvo;replace hlen:=yay hlen;replace ha9:=yay ha9;replace ho:=yay ho;replace h0:=yay h0;replace k0:=yay k0;go_enter Try.func139,Try.ntmps139
 go_upto_region 0 with fail
 go_cut [4] (fun v wx=>v = .pointer (some ⟨M,0,none⟩)∧wx=(w.alloc (.cells #[.int .i64 5,.int .i64 oa,.int .i64 ob,.int .i64 oc] 45)).drew)
 case first =>
  go_region
  all_goals (go_wp2_with fail;go_meet)
  all_goals exact ⟨by rw [hM.out],rfl⟩
 case rest =>
  obtain ⟨rfl,rfl⟩:=hcut;clear m3 t0 t3 am3 at0 at3 a0 a1 a2 a3 o0 o1 o2 o3 hat';generalize (w.alloc (.cells #[.int .i64 5,.int .i64 oa,.int .i64 ob,.int .i64 oc] 45)).drew=w1 at *;have HB:Hid (∀ W,KeepM K.nb w1 W→W.heap[M]?=some (.cells #[.int .i64 5,.int .i64 oa,.int .i64 ob,.int .i64 oc] 45 (0,0))):=yay fun W k=>k M _ 45 EN (by decide) (by decide) (by decide) (fun z=>by
   obtain ⟨c,n1,_⟩:=h0.out.num;rw [← z,EN] at n1;simp at n1)
  have kk:Hid (KeepM K.nb w1 w1):=yay KeepM.refl;replace EN:=yay EN;have x0m3:=h0.out.cellM 3;have x0t4:=h0.out.cellT hi (k:=4) (by decide);have x0g:=HB.out _ kk.out;have x0o0:=zac x0g 0;clear x0g;simp only [tcV,yac,yaa,yab,GMc.setT_T,GMc.setT_L,GMc.setT_ser,GMc.setT_N] at x0m3 x0t4 x0o0;have x0z4:=h0.out.trow.free (i * 9+4);rw [hp] at x0t4;obtain ⟨V1,h1,k1⟩:=h0.out.setPc hi (rfl) 2;replace k1:KeepM K.nb w1 (w1.setCell ⟨K.tb,i * 9+4,none⟩ (.int .i64 2)):=kk.out.trans k1;replace h1:=yay h1;replace k1:=yay k1;go_upto_region 9 with fail
  clear x0m3 x0t4 x0o0 x0z4;generalize w1.setCell ⟨K.tb,i * 9+4,none⟩ (.int .i64 2)=w2 at *;obtain ⟨La1,Lc1,hvL1,_⟩:=id h1.out.lst;simp only [GMc.setT_L] at hvL1;have x1m0:=h1.out.cellM 0;have x1m3:=h1.out.cellM 3;have x1t5:=h1.out.cellT hi (k:=5) (by decide);simp only [tcV,yac,yaa,yab,GMc.setT_T,GMc.setT_L,GMc.setT_ser,GMc.setT_N] at x1m0 x1m3 x1t5;have x1z5:=h1.out.trow.free (i * 9+5);rw [hvL1] at x1m0;have hl1:LstN K.nb w2 (.slice La1 S.L.length Lc1) S.L:=by rw [← hvL1];exact h1.out.lst
  obtain ⟨V2,h2,k2⟩:=h1.out.setList hi (GMc.setT_T _ _ _) hl1;rw [GMc.setT_setT] at h2;replace h2:=h2.drew;replace k2:KeepM K.nb w1 ((w2.setCell ⟨K.tb,i * 9+5,none⟩ (.slice La1 S.L.length Lc1)).drew):=k1.out.trans k2;replace h2:=yay h2;replace k2:=yay k2;replace hvL1:=yay hvL1;replace hl1:=yay hl1
  go_cut [80] (fun v wy=>wy=(w2.setCell ⟨K.tb,i * 9+5,none⟩ (.slice La1 S.L.length Lc1)).drew)
  case first =>
   go_region
   all_goals (go_wp2_with fail;go_meet)
   all_goals rfl
  case rest =>
   subst hcut;clear x1m0 x1m3 x1t5 x1z5;generalize (w2.setCell ⟨K.tb,i * 9+5,none⟩ (.slice La1 S.L.length Lc1)).drew=w3 at *;have x2m1:=h2.out.cellM 1;have x2m3:=h2.out.cellM 3;have x2t6:=h2.out.cellT hi (k:=6) (by decide);simp only [tcV,yac,yaa,yab,GMc.setT_T,GMc.setT_L,GMc.setT_ser,GMc.setT_N] at x2m1 x2m3 x2t6;have x2z6:=h2.out.trow.free (i * 9+6);go_upto_region 10 with fail
   obtain ⟨V3,h3,k3⟩:=h2.out.setTSer hi (GMc.setT_T _ _ _) S.ser;rw [GMc.setT_setT] at h3;replace h3:=h3.drew;replace k3:KeepM K.nb w1 ((w3.setCell ⟨K.tb,i * 9+6,none⟩ (.int .i64 S.ser)).drew):=k2.out.trans k3;replace h3:=yay h3;replace k3:=yay k3
   go_cut [91] (fun v wy=>wy=(w3.setCell ⟨K.tb,i * 9+6,none⟩ (.int .i64 S.ser)).drew)
   case first =>
    go_region
    all_goals (go_wp2_with fail;go_meet)
    all_goals rfl
   case rest =>
    subst hcut;clear x2m1 x2m3 x2t6 x2z6;generalize (w3.setCell ⟨K.tb,i * 9+6,none⟩ (.int .i64 S.ser)).drew=w4 at *;obtain ⟨La3,Lc3,hvL3,_⟩:=id h3.out.lst;simp only [GMc.setT_L] at hvL3;have x3m0:=h3.out.cellM 0;have x3g:=HB.out _ k3.out;have x3o0:=zac x3g 0;clear x3g;simp only [tcV,yac,yaa,yab,GMc.setT_T,GMc.setT_L,GMc.setT_ser,GMc.setT_N] at x3m0 x3o0;rw [hvL3] at x3m0;have hl8:LstN K.nb w4 (.slice La3 S.L.length Lc3) S.L:=by rw [← hvL3];exact h3.out.lst
    have HS0:=yay (zk1 hl8);obtain ⟨N9,hN9⟩:∃ N,w4.heap.size=N:=⟨_,rfl⟩;replace hN9:=yay hN9;replace hl9:=yay hl9;replace hl8:=yay hl8;replace hvL3:=yay hvL3
    go_wp2_with (first
     | (at_builtin;(refine zas rfl (.tmp 205) (.tmp 209) 22 rfl N9 2 i1 _ _ Try.underlying22 hi1 hz1 hz11 hz12 rfl (.slice none 0 0) 0 [] rfl (World.ownsRow_nil _ _ _ _) S.L.length _ HS0.out ?l2 ?b2 ?n2 ?_);(case l2=>(unfold maxLen;have:=hl9.out;omega));(case b2=>(have:=hl9.out;omega));(case n2=>(have:=hN9.out;simp;omega));intro v' wq ha;obtain ⟨ho,hg,hsh⟩:=ha;rw [Nat.zero_add,yas] at ho;obtain ⟨vp,vcc,rfl⟩:=zbg ho;have HZ:=yay (zjd (l:=S.L) h3.out hN9.out (zbu (World.ownsRow_nil w4 N9 2 1) (Below.refl N9 w4) (by rw [hN9.out];exact yax _) hg) ho);have HK:=yay (k3.out.trans HZ.out.2.1);have HE:=yay (zbs (r:=⟨true,0,S.L⟩) (u := .slice vp S.L.length vcc) HZ.out.1 hi (by simp only [GMc.setT_T];exact hlen.out) (by simp only [GMc.setT_T];exact ha9.out) HZ.out.2.2);clear ho hg hsh HZ)
     | (go_at_call 176;refine HE.out.mono ?_;rintro e w' ⟨rfl,hdd⟩;replace hdd:=yay hdd))
    go_end0
    exact MDone.of (k0.out.trans HK.out) ⟨rfl,hdd.out⟩
theorem zte (h:MMem K V S w) (hi:i < K.n) (hlen:(S.T i).ans.length≤100000) (ha9:(S.T i).at_≤100000) (hat:(S.T i).at_ < (S.T i).ops.length) {ok oa ob oc:Int} (ho:opG (S.T i)=⟨ok,oa,ob,oc⟩) (n1:(ok==1)=false) (n2:(ok==2)=false) (n3:(ok==3)=false) (n4:(ok==4)=false) (n5:(ok==5)=false) (hl9:S.L.length≤1000000) (hlx:∀ x∈S.L,0≤x∧x < 64) (hp:(S.T i).pc=1) :
  Calls Try.prog 139 #[.pointer (some ⟨K.mb,0,none⟩),.int .i64 i] w (MDone K (zeg (S.setT i { S.T i with pc:=2,list:=S.L,ser:=S.ser }) i ⟨ok,oa,ob,oc⟩ 1) w):=by
 have hi':(i:Int) < (K.n:Int):=by omega
 have hat':((S.T i).at_:Int) < ((S.T i).ops.length:Int):=by omega
 obtain ⟨xb,xo,xc,hvo,hok,o0,o1,o2,o3⟩:=h.opAt hi rfl hat;rw [ho] at o0 o1 o2 o3;simp only at o0 o1 o2 o3;have m3:=h.cellM 3;have t0:=h.cellT hi (k:=0) (by decide);have t3:=h.cellT hi (k:=3) (by decide);simp only [tcV,yac,yaa,yab,hvo,Nat.add_zero] at m3 t0 t3;have al:∀ {a:Addr} {v:Value} (o:Obj),w.cell? a=some v→(w.alloc o).cell? a=some v:=fun {a v} o hv=>(World.cell?_of_block (w:=w) (Below.heap_alloc _ _ _ (World.block_lt_of_cell? w _ hv))).trans hv;have am3:=al (.cells #[.int .i64 0,.int .i64 0,.int .i64 0,.int .i64 0] 45) m3;have at0:=al (.cells #[.int .i64 0,.int .i64 0,.int .i64 0,.int .i64 0] 45) t0;have at3:=al (.cells #[.int .i64 0,.int .i64 0,.int .i64 0,.int .i64 0] 45) t3;have a0:=al (.cells #[.int .i64 0,.int .i64 0,.int .i64 0,.int .i64 0] 45) o0;have a1:=al (.cells #[.int .i64 0,.int .i64 0,.int .i64 0,.int .i64 0] 45) o1;have a2:=al (.cells #[.int .i64 0,.int .i64 0,.int .i64 0,.int .i64 0] 45) o2;have a3:=al (.cells #[.int .i64 0,.int .i64 0,.int .i64 0,.int .i64 0] 45) o3;clear al;have h0:=(h.alloc (.cells #[.int .i64 ok,.int .i64 oa,.int .i64 ob,.int .i64 oc] 45)).drew;have k0:KeepM K.nb w (w.alloc (.cells #[.int .i64 ok,.int .i64 oa,.int .i64 ob,.int .i64 oc] 45)).drew:=KeepM.alloc KeepM.refl _;have EN:(w.alloc (.cells #[.int .i64 ok,.int .i64 oa,.int .i64 ob,.int .i64 oc] 45)).drew.heap[w.heap.size]?=_:=heap_alloc_new w (.cells #[.int .i64 ok,.int .i64 oa,.int .i64 ob,.int .i64 oc] 45);generalize hM:w.heap.size=M at *;replace hM:=yay hM;replace h:=yay h;replace hok:=yay hok;replace hat:=yay hat;replace hvo:=yay hvo;replace hlen:=yay hlen;replace ha9:=yay ha9;replace ho:=yay ho;replace h0:=yay h0;replace k0:=yay k0;go_enter Try.func139,Try.ntmps139
 go_upto_region 0 with fail
 go_cut [4] (fun v wx=>v = .pointer (some ⟨M,0,none⟩)∧wx=(w.alloc (.cells #[.int .i64 ok,.int .i64 oa,.int .i64 ob,.int .i64 oc] 45)).drew)
 case first =>
  go_region
  all_goals (go_wp2_with fail;go_meet)
  all_goals exact ⟨by rw [hM.out],rfl⟩
 case rest =>
  obtain ⟨rfl,rfl⟩:=hcut;clear m3 t0 t3 am3 at0 at3 a0 a1 a2 a3 o0 o1 o2 o3 hat';generalize (w.alloc (.cells #[.int .i64 ok,.int .i64 oa,.int .i64 ob,.int .i64 oc] 45)).drew=w1 at *;have HB:Hid (∀ W,KeepM K.nb w1 W→W.heap[M]?=some (.cells #[.int .i64 ok,.int .i64 oa,.int .i64 ob,.int .i64 oc] 45 (0,0))):=yay fun W k=>k M _ 45 EN (by decide) (by decide) (by decide) (fun z=>by
   obtain ⟨c,n1,_⟩:=h0.out.num;rw [← z,EN] at n1;simp at n1)
  have kk:Hid (KeepM K.nb w1 w1):=yay KeepM.refl;replace EN:=yay EN;have x0m3:=h0.out.cellM 3;have x0t4:=h0.out.cellT hi (k:=4) (by decide);have x0g:=HB.out _ kk.out;have x0o0:=zac x0g 0;clear x0g;simp only [tcV,yac,yaa,yab,GMc.setT_T,GMc.setT_L,GMc.setT_ser,GMc.setT_N] at x0m3 x0t4 x0o0;have x0z4:=h0.out.trow.free (i * 9+4);rw [hp] at x0t4;obtain ⟨V1,h1,k1⟩:=h0.out.setPc hi (rfl) 2;replace k1:KeepM K.nb w1 (w1.setCell ⟨K.tb,i * 9+4,none⟩ (.int .i64 2)):=kk.out.trans k1;replace h1:=yay h1;replace k1:=yay k1;go_upto_region 9 with fail
  clear x0m3 x0t4 x0o0 x0z4;generalize w1.setCell ⟨K.tb,i * 9+4,none⟩ (.int .i64 2)=w2 at *;obtain ⟨La1,Lc1,hvL1,_⟩:=id h1.out.lst;simp only [GMc.setT_L] at hvL1;have x1m0:=h1.out.cellM 0;have x1m3:=h1.out.cellM 3;have x1t5:=h1.out.cellT hi (k:=5) (by decide);simp only [tcV,yac,yaa,yab,GMc.setT_T,GMc.setT_L,GMc.setT_ser,GMc.setT_N] at x1m0 x1m3 x1t5;have x1z5:=h1.out.trow.free (i * 9+5);rw [hvL1] at x1m0;have hl1:LstN K.nb w2 (.slice La1 S.L.length Lc1) S.L:=by rw [← hvL1];exact h1.out.lst
  obtain ⟨V2,h2,k2⟩:=h1.out.setList hi (GMc.setT_T _ _ _) hl1;rw [GMc.setT_setT] at h2;replace h2:=h2.drew;replace k2:KeepM K.nb w1 ((w2.setCell ⟨K.tb,i * 9+5,none⟩ (.slice La1 S.L.length Lc1)).drew):=k1.out.trans k2;replace h2:=yay h2;replace k2:=yay k2;replace hvL1:=yay hvL1;replace hl1:=yay hl1
  go_cut [80] (fun v wy=>wy=(w2.setCell ⟨K.tb,i * 9+5,none⟩ (.slice La1 S.L.length Lc1)).drew)
  case first =>
   go_region
   all_goals (go_wp2_with fail;go_meet)
   all_goals rfl
  case rest =>
   subst hcut;clear x1m0 x1m3 x1t5 x1z5;generalize (w2.setCell ⟨K.tb,i * 9+5,none⟩ (.slice La1 S.L.length Lc1)).drew=w3 at *;have x2m1:=h2.out.cellM 1;have x2m3:=h2.out.cellM 3;have x2t6:=h2.out.cellT hi (k:=6) (by decide);simp only [tcV,yac,yaa,yab,GMc.setT_T,GMc.setT_L,GMc.setT_ser,GMc.setT_N] at x2m1 x2m3 x2t6;have x2z6:=h2.out.trow.free (i * 9+6);go_upto_region 10 with fail
   obtain ⟨V3,h3,k3⟩:=h2.out.setTSer hi (GMc.setT_T _ _ _) S.ser;rw [GMc.setT_setT] at h3;replace h3:=h3.drew;replace k3:KeepM K.nb w1 ((w3.setCell ⟨K.tb,i * 9+6,none⟩ (.int .i64 S.ser)).drew):=k2.out.trans k3;replace h3:=yay h3;replace k3:=yay k3
   go_cut [91] (fun v wy=>wy=(w3.setCell ⟨K.tb,i * 9+6,none⟩ (.int .i64 S.ser)).drew)
   case first =>
    go_region
    all_goals (go_wp2_with fail;go_meet)
    all_goals rfl
   case rest =>
    subst hcut;clear x2m1 x2m3 x2t6 x2z6;generalize (w3.setCell ⟨K.tb,i * 9+6,none⟩ (.int .i64 S.ser)).drew=w4 at *;have x3g:=HB.out _ k3.out;have x3o0:=zac x3g 0;have x3o1:=zac x3g 1;have x3o2:=zac x3g 2;have x3o3:=zac x3g 3;clear x3g;simp only [tcV,yac,yaa,yab,GMc.setT_T,GMc.setT_L,GMc.setT_ser,GMc.setT_N] at x3o0 x3o1 x3o2 x3o3;have HLK:=yay (zmo (ok:=ok) (oa:=oa) (ob:=ob) (oc:=oc) (pc:=1) h3.out hi (by simp only [GMc.setT_T];exact hlen.out) (by simp only [GMc.setT_T];exact ha9.out) (by omega) (by omega) (by simp only [GMc.setT_T];exact hlx) (by simp only [GMc.setT_T];exact hl9));replace hlx:=yay hlx;replace hl9:=yay hl9
    go_wp2_with (go_at_call 180;refine HLK.out.mono ?_;rintro e w' ⟨rfl,hdd⟩;replace hdd:=yay hdd)
    go_end0
    exact MDone.of (k0.out.trans k3.out) ⟨rfl,hdd.out⟩
theorem ztd (h:MMem K V S w) (hi:i < K.n) (hlen:(S.T i).ans.length≤100000) (ha9:(S.T i).at_≤100000) (hat:(S.T i).at_ < (S.T i).ops.length) {ok oa ob oc:Int} (ho:opG (S.T i)=⟨ok,oa,ob,oc⟩) (n1:(ok==1)=false) (n2:(ok==2)=false) (n3:(ok==3)=false) (n4:(ok==4)=false) (n5:(ok==5)=false) {pc:Int} (hl9:(S.T i).list.length≤1000000) (hlx:∀ x∈(S.T i).list,0≤x∧x < 64) (hp:(S.T i).pc=pc) (hp1:1≤pc) (hpl:pc≤(S.T i).list.length+1) (hpn:(pc==1)=false) (hpw:IntKind.i64.wrap (pc+1)=pc+1) :
  Calls Try.prog 139 #[.pointer (some ⟨K.mb,0,none⟩),.int .i64 i] w (MDone K (zeg (S.setT i { S.T i with pc:=pc+1 }) i ⟨ok,oa,ob,oc⟩ pc) w):=by
 have hi':(i:Int) < (K.n:Int):=by omega
 have hat':((S.T i).at_:Int) < ((S.T i).ops.length:Int):=by omega
 obtain ⟨xb,xo,xc,hvo,hok,o0,o1,o2,o3⟩:=h.opAt hi rfl hat;rw [ho] at o0 o1 o2 o3;simp only at o0 o1 o2 o3;have m3:=h.cellM 3;have t0:=h.cellT hi (k:=0) (by decide);have t3:=h.cellT hi (k:=3) (by decide);simp only [tcV,yac,yaa,yab,hvo,Nat.add_zero] at m3 t0 t3;have al:∀ {a:Addr} {v:Value} (o:Obj),w.cell? a=some v→(w.alloc o).cell? a=some v:=fun {a v} o hv=>(World.cell?_of_block (w:=w) (Below.heap_alloc _ _ _ (World.block_lt_of_cell? w _ hv))).trans hv;have am3:=al (.cells #[.int .i64 0,.int .i64 0,.int .i64 0,.int .i64 0] 45) m3;have at0:=al (.cells #[.int .i64 0,.int .i64 0,.int .i64 0,.int .i64 0] 45) t0;have at3:=al (.cells #[.int .i64 0,.int .i64 0,.int .i64 0,.int .i64 0] 45) t3;have a0:=al (.cells #[.int .i64 0,.int .i64 0,.int .i64 0,.int .i64 0] 45) o0;have a1:=al (.cells #[.int .i64 0,.int .i64 0,.int .i64 0,.int .i64 0] 45) o1;have a2:=al (.cells #[.int .i64 0,.int .i64 0,.int .i64 0,.int .i64 0] 45) o2;have a3:=al (.cells #[.int .i64 0,.int .i64 0,.int .i64 0,.int .i64 0] 45) o3;clear al;have h0:=(h.alloc (.cells #[.int .i64 ok,.int .i64 oa,.int .i64 ob,.int .i64 oc] 45)).drew;have k0:KeepM K.nb w (w.alloc (.cells #[.int .i64 ok,.int .i64 oa,.int .i64 ob,.int .i64 oc] 45)).drew:=KeepM.alloc KeepM.refl _;have EN:(w.alloc (.cells #[.int .i64 ok,.int .i64 oa,.int .i64 ob,.int .i64 oc] 45)).drew.heap[w.heap.size]?=_:=heap_alloc_new w (.cells #[.int .i64 ok,.int .i64 oa,.int .i64 ob,.int .i64 oc] 45);generalize hM:w.heap.size=M at *;replace hM:=yay hM;replace h:=yay h;replace hok:=yay hok;replace hat:=yay hat;replace hvo:=yay hvo;replace hlen:=yay hlen;replace ha9:=yay ha9;replace ho:=yay ho;replace h0:=yay h0;replace k0:=yay k0;go_enter Try.func139,Try.ntmps139
 go_upto_region 0 with fail
 go_cut [4] (fun v wx=>v = .pointer (some ⟨M,0,none⟩)∧wx=(w.alloc (.cells #[.int .i64 ok,.int .i64 oa,.int .i64 ob,.int .i64 oc] 45)).drew)
 case first =>
  go_region
  all_goals (go_wp2_with fail;go_meet)
  all_goals exact ⟨by rw [hM.out],rfl⟩
 case rest =>
  obtain ⟨rfl,rfl⟩:=hcut;clear m3 t0 t3 am3 at0 at3 a0 a1 a2 a3 o0 o1 o2 o3 hat';generalize (w.alloc (.cells #[.int .i64 ok,.int .i64 oa,.int .i64 ob,.int .i64 oc] 45)).drew=w1 at *;have HB:Hid (∀ W,KeepM K.nb w1 W→W.heap[M]?=some (.cells #[.int .i64 ok,.int .i64 oa,.int .i64 ob,.int .i64 oc] 45 (0,0))):=yay fun W k=>k M _ 45 EN (by decide) (by decide) (by decide) (fun z=>by
   obtain ⟨c,n1,_⟩:=h0.out.num;rw [← z,EN] at n1;simp at n1)
  have kk:Hid (KeepM K.nb w1 w1):=yay KeepM.refl;replace EN:=yay EN;have x0m3:=h0.out.cellM 3;have x0t4:=h0.out.cellT hi (k:=4) (by decide);have x0g:=HB.out _ kk.out;have x0o0:=zac x0g 0;clear x0g;simp only [tcV,yac,yaa,yab,GMc.setT_T,GMc.setT_L,GMc.setT_ser,GMc.setT_N] at x0m3 x0t4 x0o0;have x0z4:=h0.out.trow.free (i * 9+4);rw [hp] at x0t4;obtain ⟨V1,h1,k1⟩:=h0.out.setPc hi (rfl) (pc+1);replace k1:KeepM K.nb w1 (w1.setCell ⟨K.tb,i * 9+4,none⟩ (.int .i64 (pc+1))):=kk.out.trans k1;replace h1:=yay h1;replace k1:=yay k1;go_upto_region 11 with fail
  clear x0m3 x0t4 x0o0 x0z4;generalize w1.setCell ⟨K.tb,i * 9+4,none⟩ (.int .i64 (pc+1))=w2 at *;have x1g:=HB.out _ k1.out;have x1o0:=zac x1g 0;have x1o1:=zac x1g 1;have x1o2:=zac x1g 2;have x1o3:=zac x1g 3;clear x1g;simp only [tcV,yac,yaa,yab,GMc.setT_T,GMc.setT_L,GMc.setT_ser,GMc.setT_N] at x1o0 x1o1 x1o2 x1o3;have HLK:=yay (zmo (ok:=ok) (oa:=oa) (ob:=ob) (oc:=oc) (pc:=pc) h1.out hi (by simp only [GMc.setT_T];exact hlen.out) (by simp only [GMc.setT_T];exact ha9.out) (by omega) (by simp only [GMc.setT_T];exact hpl) (by simp only [GMc.setT_T];exact hlx) (by simp only [GMc.setT_T];exact hl9));replace hlx:=yay hlx;replace hl9:=yay hl9;replace hpl:=yay hpl
  go_wp2_with (go_at_call 180;refine HLK.out.mono ?_;rintro e w' ⟨rfl,hdd⟩;replace hdd:=yay hdd)
  go_end0
  exact MDone.of (k0.out.trans k1.out) ⟨rfl,hdd.out⟩
end
end Go.Proofs.Ytofacoojpgkbiaa
