/- Part of a proof. No condition. -/
import Derived.Test.YtofacoojpgkbiaaCCalP22
import Derived.Test.YtofacoojpgkbiaaCCalP35
set_option linter.unusedVariables false
set_option maxHeartbeats 8000000
set_option linter.unusedSimpArgs false
namespace Go.Proofs.Ytofacoojpgkbiaa.Cl
open Go.Conc Go.RowKit
open Go.ConcN (upd upd_ne upd_same)
set_option maxRecDepth 100000
section
variable{K:MK}{va:Nat→Value}{S:GMc}{w:World}{i:Nat}
theorem MMem.opLen(h:MMem K va S w)(hi:i<K.n):∃a cap,K.vo i = .slice a (S.T i).ops.length cap:=by
 obtain⟨ao,cap,e,_⟩:=h.ops i hi;exact⟨ao,cap,e⟩
def z7i(K:MK)(S0:GMc)(i d:Nat)(w:World)(r:Nat)(wr:World):Prop :=
 ∃va S,MMem K va S wr∧KeepM w wr∧zcb i r S=zcb i d S0∧(S.T i).ops=(S0.T i).ops∧(S.T i).ans.length+r≤65537∧(S.T i).at_+r≤65537∧((S.T i).pc=0→(S0.T i).ops.length+1≤(S.T i).at_+r)
theorem zlk(h:MMem K va S w)(hi:i<K.n)(hops:(S.T i).ops.length≤65536)(hat:(S.T i).at_≤(S.T i).ops.length)(qo:(S.T i).ans.length≤(S.T i).at_) :
  Calls Try.prog 148 #[.pointer (some ⟨K.mb,0,none⟩),.int .i64 i] w (MDone K (zcb i ((S.T i).ops.length+1 - (S.T i).at_) S) w):=by
 have hi':(i:Int)<(K.n:Int):=by omega
 obtain⟨d,hd⟩:∃d,(S.T i).ops.length+1 - (S.T i).at_=d:=⟨_,rfl⟩;rw[hd];have H0:Hid (z7i K S i d w d w):=yay ⟨va,S,h,KeepM.refl,rfl,rfl,by omega,by omega,fun _=>by omega⟩;replace hops:=yay hops;clear hat qo hd;replace h:=yay h;go_enter Try.func148,Try.ntmps148
 go_wp2_with fail
 go_loopg [4] d (fun k v wr=>Hid (z7i K S i d w k wr))
 case atStart=>exact H0
 case round =>
  obtain⟨V1,S1,h1,k1,e1,o1,b1,b2,b3⟩:=hrel.out;obtain⟨xa,xc,hvo⟩:=h1.opLen hi;have m3:=h1.cellM 1;have t0:=h1.cellT hi (k:=0) (by decide);have t3:=h1.cellT hi (k:=3) (by decide);have t4:=h1.cellT hi (k:=4) (by decide);simp only[tcV,yac,yaa,yab,hvo,Nat.add_zero] at m3 t0 t3 t4;by_cases q:(S1.T i).pc=0∧(S1.T i).at_<(S1.T i).ops.length
  ·have c1:((S1.T i).pc==0)=true:=by simp[q.1]
   have c2:decide (((S1.T i).at_:Int)<((S1.T i).ops.length:Int))=true:=decide_eq_true (by omega);obtain⟨g,hg⟩:∃g,gk=g+1:=⟨gk - 1,by have:=b3 q.1;rw[o1] at q;omega⟩;have q2:=q.2;obtain⟨ob,oo,oc,hvo2,hok,p0,p1,p2,p3⟩:=h1.opAt hi rfl q.2;rw[hvo] at hvo2;obtain rfl:xa=some ⟨ob,oo,none⟩:=by injection hvo2
   have hlen2:(S1.T i).ans.length≤100000:=by omega
   have hat2:(S1.T i).at_≤100000:=by omega
   have HB:=yay (zsm h1.drew.drew hi hlen2 hat2 (opG (S1.T i)));have HT:=yay (ztv S1 i (opG (S1.T i)));have e2:zcb i (g+1) S1=zcb i g (zb9 S1 i (opG (S1.T i))):=by
    conv=>lhs;unfold zcb
    rw[if_pos q]
   rw[hg,e2] at e1;have HN:Hid (∀w',(∃V',MMem K V' (zb9 S1 i (opG (S1.T i))) w'∧KeepM wr.drew.drew w')→z7i K S i d w g w'):=yay fun w' ⟨V',h',k'⟩=>by
    obtain⟨t1,t2,t3,t4,t5⟩:=HT.out;refine⟨V',_,h',k1.trans k',e1,t1.trans o1,by omega,by omega,fun z=>?_⟩;have:=b3 q.1;rcases t2 with t2|t2
    ·omega
    ·omega
   replace e1:=yay e1;replace e2:=yay e2;replace hg:=yay hg;replace hvo2:=yay hvo2;replace hvo:=yay hvo;replace hok:=yay hok;replace o1:=yay o1;replace b1:=yay b1;replace b2:=yay b2;replace b3:=yay b3;replace q:=yay q;replace h1:=yay h1;replace k1:=yay k1;replace hlen2:=yay hlen2;replace hat2:=yay hat2;have q2':((S1.T i).at_:Int)<((S1.T i).ops.length:Int):=by omega
   replace q2:=yay q2;go_upto_region 0 with fail
   generalize hop:opG (S1.T i)=op at *;obtain⟨ok,oa,ob',oc'⟩:=op;simp only at p0 p1 p2 p3;unfold opV at HB;simp only at HB;replace hop:=yay hop
   go_cut [32] (fun v wy=>v = .bool true∧wy=wr.drew)
   case first =>
    go_region
    all_goals (go_wp2_with fail;go_meet)
    all_goals exact⟨rfl,rfl⟩
   case rest =>
    obtain⟨rfl,rfl⟩:=hcut;go_upto_region 1 with fail
    go_region_with (go_at_call 181;refine HB.out.mono ?_;rintro e w' ⟨rfl,hdd⟩;replace hdd:=yay hdd)
    all_goals go_wp2_with fail
    all_goals go_roundg g
    all_goals first|exact yay (HN.out _ hdd.out)|(have:=hg.out;omega)
  ·have q3:¬((S1.T i).pc=0∧(S1.T i).at_<(S1.T i).ops.length):=q;rw[zp0 q3] at e1;have HF:Hid (MDone K (zcb i d S) w (.returned (.tuple #[])) wr.drew):=yay ⟨rfl,V1,by rw[←e1];exact h1.drew,k1⟩;by_cases c0:(S1.T i).pc=0
   ·have c1:((S1.T i).pc==0)=true:=by simp[c0]
    have c2:decide (((S1.T i).at_:Int)<((S1.T i).ops.length:Int))=false:=decide_eq_false (by omega);have c3:=yay (show decide ((S1.T i).at_<(S1.T i).ops.length)=false from decide_eq_false (by omega))
    replace q:=yay q;replace q3:=yay q3;replace c0:=yay c0;replace e1:=yay e1;replace b3:=yay b3;replace b1:=yay b1;replace b2:=yay b2;replace o1:=yay o1;replace h1:=yay h1;replace k1:=yay k1;replace hvo:=yay hvo;go_upto_region 0 with fail
    go_cut [32] (fun v wy=>v = .bool false∧wy=wr.drew)
    case first =>
     go_region
     all_goals (go_wp2_with fail;go_meet)
     all_goals exact⟨by rw[c3.out],rfl⟩
    case rest =>
     obtain⟨rfl,rfl⟩:=hcut
     go_wp2_with fail
     go_end0
     exact HF.out
   ·have c1:((S1.T i).pc==0)=false:=by simp[c0]
    replace q:=yay q;replace q3:=yay q3;replace c0:=yay c0;replace e1:=yay e1;replace b3:=yay b3;replace b1:=yay b1;replace b2:=yay b2;replace o1:=yay o1;replace h1:=yay h1;replace k1:=yay k1;replace hvo:=yay hvo;go_upto_region 0 with fail
    go_cut [32] (fun v wy=>v = .bool false∧wy=wr.drew)
    case first =>
     go_region
     all_goals (go_wp2_with fail;go_meet)
     all_goals exact⟨rfl,rfl⟩
    case rest =>
     obtain⟨rfl,rfl⟩:=hcut
     go_wp2_with fail
     go_end0
     exact HF.out
end
theorem zr5{S:GMc}{n:Nat}(h:∀i,i<n→¬0<(S.T i).pc):ze0 S n=false:=by
 rw[Bool.eq_false_iff];intro z;obtain⟨i,hi,q⟩:=List.any_eq_true.1 z;exact h i (List.mem_range.1 hi) (of_decide_eq_true q)
section
variable{K:MK}{va:Nat→Value}{S:GMc}{w:World}{i:Nat}
end
structure MPre(K:MK)(va:Nat→Value)(S:GMc)(vT:Value)(w:World):Prop where
 mach:w.heap[K.mb]?=some (.cells #[.slice K.ca K.k K.cN,vT,.int .i64 S.N] 260 (0,0))
 hk:S.k=K.k
 cs:0<K.k→K.ca=some ⟨K.cb,0,none⟩∧K.base≤K.cb∧TRow 262 4 K.cb K.k K.cN (ccV S) w
 row:∃xs:List Value,w.ownsRow K.base 264 7 vT K.n xs∧∀i,i<K.n→∀k,k<7→xs[i*7+k]?=(tcV (K.vo i) (va i) i (S.T i))[k]?
 ans:∀i,i<K.n→AnsM K.base w (va i) (S.T i).ans
 inj:∀i j,i<K.n→j<K.n→i≠j→∀g,(va i).ownBlock=some g→(va j).ownBlock≠some g
 ops:∀i,i<K.n→zq0 K.w0 (K.vo i) (S.T i).ops
 low:Below K.base K.w0 w
 lo:K.base≤K.mb
 bs:K.w0.heap.size=K.base
 nn:K.n≤64
section
variable{K:MK}{va:Nat→Value}{S:GMc}{w w' w2:World}{vT vT':Value}
theorem MMem.pre(h:MMem K va S w):MPre K va S (.slice (some ⟨K.tb,0,none⟩) K.n K.cap) w:=by
 obtain⟨cur,t1,t2,t3,t4,t5⟩:=h.trow.ex;refine⟨h.mach,h.hk,h.cs,⟨cur.toList.take (K.n*7),⟨?_,.inr ⟨K.tb,K.cap,cur,rfl,h.lo.2,t1,t2,t3,t4,rfl⟩⟩,fun i hi k hk=>?_⟩,h.ans,h.inj,h.ops,h.low,h.lo.1,h.bs,h.nn⟩
 ·rw[List.length_take,Array.length_toList,t4];have:=Nat.mul_le_mul_right 7 t2;omega
 ·rw[List.getElem?_take_of_lt (by omega),Array.getElem?_toList];exact t5 i hi k hk
theorem MPre.mem(h:MPre K va S vT w)(hn:0<K.n):∃tb cap,vT = .slice (some ⟨tb,0,none⟩) K.n cap∧MMem { K with tb:=tb,cap:=cap } va S w:=by
 obtain⟨xs,hr,hx⟩:=h.row;rcases hr.2 with⟨_,q⟩|⟨g,cap,cur,e,q1,q2,q3,q4,q5,q6⟩
 ·omega
 ·refine⟨g,cap,e,⟨by have:=h.mach;rw[e] at this;exact this,h.hk,h.cs,⟨cur,q2,q3,q4,q5,fun i hi k hk=>?_⟩,h.ans,h.inj,h.ops,h.low,⟨h.lo,q1⟩,h.bs,h.nn⟩⟩;have hi':i<K.n:=hi;have:cur[i*7+k]?=xs[i*7+k]?:=by
   rw[←q6,List.getElem?_take_of_lt (by omega),Array.getElem?_toList]
  rw[this];exact hx i hi' k hk
theorem MPre.size(h:MPre K va S vT w):K.base≤w.heap.size:=by have:=h.low.size;have:=h.bs;omega
theorem MPre.cbt(h:MPre K va S vT w)(hk:0<K.k):∃cur,w.heap[K.cb]?=some (.cells cur 262 (0,0)):=by obtain⟨cur,h1,_⟩:=(h.cs hk).2.2.ex;exact⟨cur,h1⟩
theorem MPre.more(h:MPre K va S vT w)(hn:K.n<64){xs:List Value}(hrow:w.ownsRow K.base 264 7 vT K.n xs)(hxs:∀i,i<K.n→∀k,k<7→xs[i*7+k]?=(tcV (K.vo i) (va i) i (S.T i))[k]?){vo:Value}{L:List OpD}(hvo:zq0 K.w0 vo L)
  (ho:w2.ownsRow K.base 264 7 vT' (K.n+1) (xs++tcV vo (.slice none 0 0) K.n (zc3 L))) (hg:w.grownBy w2 vT.ownBlock) (hsh:∀g,vT'.ownBlock=some g→vT.ownBlock=some g∨w.heap.size≤g) :
  w2.heap[K.mb]?=w.heap[K.mb]?∧MPre { K with n:=K.n+1,vo:=upd K.vo K.n vo } (upd va K.n (.slice none 0 0)) { S with T:=upd S.T K.n (zc3 L) } vT' (w2.setCell ⟨K.mb,1,none⟩ vT')∧KeepM w (w2.setCell ⟨K.mb,1,none⟩ vT'):=by
 have kt:∀{b:Nat} {cs:Array Value} {e:TypeId},w.heap[b]?=some (.cells cs e (0,0))→e≠264→w2.heap[b]?=some (.cells cs e (0,0)):=fun{b cs e} hb he =>
  (hg.block b (yah.1 hb).1 fun z=>by
   obtain⟨cc,hcc⟩:=zak hrow z.symm;rw[hb] at hcc;simp at hcc;exact he hcc.2).trans hb
 have hm2:=kt h.mach (by decide);have off:∀b,b≠K.mb→(w2.setCell ⟨K.mb,1,none⟩ vT').heap[b]?=w2.heap[b]?:=fun b hb=>Below.heap_setCell _ _ _ _ hb;have nmb:∀{b:Nat} {cs:Array Value} {e:TypeId},w2.heap[b]?=some (.cells cs e (0,0))→e≠260→b≠K.mb:=fun{b cs e} hb he z=>by
  rw[z,hm2] at hb;simp at hb;exact he hb.2.symm
 have hkp:KeepM w (w2.setCell ⟨K.mb,1,none⟩ vT'):=fun b c t hb h1 h2 h3 h4=>(off b (nmb (kt hb h3) h1)).trans (kt hb h3);have hs:=zal hm2 1 vT';have lt:∀{i:Nat},i<K.n+1→i≠K.n→i<K.n:=fun h1 h2=>by omega
 refine⟨hm2.trans h.mach.symm,⟨hs,h.hk,fun hk=>⟨(h.cs hk).1,(h.cs hk).2.1,(h.cs hk).2.2.keep (by
  obtain⟨cur,e⟩:=h.cbt hk;exact(off _ (nmb (kt e (by decide)) (by decide))).trans ((kt e (by decide)).trans e.symm))⟩,⟨_,zaq ho fun g o hgo hh=>(off g (by
  obtain⟨cc,hcc⟩:=zak ho hgo;exact nmb hcc (by decide))).trans hh,fun i hi k hk=>?_⟩,fun i hi=>?_,fun i j hi hj hij g h1 h2=>?_,fun i hi=>?_,?_,h.lo,h.bs,hn⟩,hkp⟩
 ·have hi':i<K.n+1:=hi;have hxl:xs.length=K.n*7:=hrow.1;by_cases e:i=K.n
  ·subst e;simp only[upd_same];rw[List.getElem?_append_right (by omega),hxl,show K.n*7+k - K.n*7=k by omega]
  ·simp only[upd_ne _ _ e];rw[List.getElem?_append_left (by omega)];exact hxs i (lt hi' e) k hk
 ·have hi':i<K.n+1:=hi;by_cases e:i=K.n
  ·subst e;simp only[upd_same];exact⟨World.ownsRow_nil _ _ _ _,fun r hr=>by simp[zc3] at hr⟩
  ·simp only[upd_ne _ _ e];refine(h.ans i (lt hi' e)).keep fun g hgg=>?_;obtain⟨cc,hcc⟩:=zak (h.ans i (lt hi' e)).row hgg;exact((off g (nmb (kt hcc (by decide)) (by decide))).trans (kt hcc (by decide))).trans hcc.symm
 ·have hi':i<K.n+1:=hi;have hj':j<K.n+1:=hj;by_cases e:i=K.n
  ·subst e;simp only[upd_same] at h1;cases h1
  ·by_cases e2:j=K.n
   ·subst e2;simp only[upd_same] at h2;cases h2
   ·simp only[upd_ne _ _ e] at h1;simp only[upd_ne _ _ e2] at h2;exact h.inj i j (lt hi' e) (lt hj' e2) hij g h1 h2
 ·have hi':i<K.n+1:=hi;by_cases e:i=K.n
  ·subst e;simp only[upd_same];exact hvo
  ·simp only[upd_ne _ _ e];exact h.ops i (lt hi' e)
 ·have hb:=h.low;have qp:K.base≤w.heap.size:=h.size;have:Below K.base K.w0 w2:=by
   refine⟨hg.os.trans hb.os,hg.tape.trans hb.tape,hg.output.trans hb.output,Nat.le_trans hb.size hg.size,fun b qr=>(hg.block b (by omega) fun z=>?_).trans (hb.block b qr)⟩;have:=(zb8 hrow z.symm).1;omega
  exact Below.setCell this h.lo _
theorem MPre.keepT(h:MPre K va S vT w)(hk:∀(b:Nat) (c:Array Value) (t:TypeId),w.heap[b]?=some (Obj.cells c t (0,0))→t=260∨t=264∨t=42∨t=262→w'.heap[b]?=some (Obj.cells c t (0,0)))(hl:Below K.base K.w0 w'):MPre K va S vT w':=by
 obtain⟨xs,hr,hx⟩:=h.row;refine⟨hk _ _ _ h.mach (by simp),h.hk,fun q=>⟨(h.cs q).1,(h.cs q).2.1,(h.cs q).2.2.keep (by
  obtain⟨cur,e⟩:=h.cbt q;exact(hk _ _ _ e (by simp)).trans e.symm)⟩,⟨xs,zaq hr fun g o hg hh=>?_,hx⟩,fun i hi=>(h.ans i hi).keep fun g hg=>?_,h.inj,h.ops,hl,h.lo,h.bs,h.nn⟩
 ·obtain⟨cc,hcc⟩:=zak hr hg;rw[←hh,hcc];exact hk _ _ _ hcc (by simp)
 ·obtain⟨cc,hcc⟩:=zak (h.ans i hi).row hg;exact(hk _ _ _ hcc (by simp)).trans hcc.symm
theorem MPre.below(h:MPre K va S vT w){N:Nat}(hb:Below N w w')(hN:w.heap.size=N):MPre K va S vT w' :=
 h.keepT (fun b c t hh _=>(hb.block b (by rw[←hN];exact(yah.1 hh).1)).trans hh) (h.low.trans (hb.mono (by have:=h.size;omega)))
theorem MPre.alloc(h:MPre K va S vT w)(o:Obj):MPre K va S vT (w.alloc o)∧KeepM w (w.alloc o):=⟨h.below ((Below.refl _ _).alloc (yax _) o) rfl,KeepM.refl.alloc o⟩
theorem MPre.cellM(h:MPre K va S vT w)(k:Nat):w.cell? ⟨K.mb,k,none⟩=(#[.slice K.ca K.k K.cN,vT,.int .i64 S.N]:Array Value)[k]?:=zab h.mach k
theorem MPre.cellC(h:MPre K va S vT w){j:Nat}(hj:j<K.k){k:Nat}(hk:k<4):w.cell? ⟨K.cb,j*4+k,none⟩=(ccV S j)[k]?:=(h.cs (by omega)).2.2.cell hj hk
theorem zu1(h:MPre K va S vT w):Calls Try.prog 150 #[.pointer (some ⟨K.mb,0,none⟩)] w fun e w'=>e = .returned (.bool (ze0 S K.n))∧w'=w:=by
 obtain⟨xs,hr,_⟩:=id h.row;obtain⟨tp,tc,rfl⟩:=zbe hr;have m3:=h.cellM 1;have hn:=h.nn;simp only[yac,yaa,yab] at m3;replace h:=yay h;replace hr:=yay hr;go_enter Try.func150,Try.ntmps150
 go_wp2_with fail
 go_loopw [3] (fun iv wr=>∃j:Nat,j≤K.n∧iv = .int .i64 j∧Hid (∀k,k<j→¬0<(S.T k).pc)∧wr=w) (fun iv _=>K.n - (intOf iv).toNat)
 case atStart=>exact⟨0,by omega,rfl,yay (fun k hk=>by omega),rfl⟩
 case round =>
  obtain⟨j,hj,rfl,HP,rfl⟩:=hrel;by_cases qr:j<K.n
  ·have hlt':(j:Int)<(K.n:Int):=by omega
   have e2:IntKind.i64.wrap ((j:Int)+1)=((j+1:Nat):Int):=by rw[IntKind.wrap_i64];omega
   obtain⟨tb,cap,e,hm⟩:=h.out.mem (by omega);have t4:=hm.cellT qr (k:=4) (by decide);simp only[tcV,yaa,yab] at t4;replace hm:=yay hm;injection e with e3 e4 e5;subst e3;clear e4 e5;by_cases hp:0<(S.T j).pc
   ·have d1:decide (0<(S.T j).pc)=true:=decide_eq_true hp;have hm:=yay (zm7 qr hp);replace hp:=yay hp
    go_wp2_with fail
    go_ret
    exact⟨by rw[hm.out];rfl,rfl⟩
   ·have d1:decide (0<(S.T j).pc)=false:=decide_eq_false hp;replace hp:=yay hp
    go_wp2_with fail
    refine⟨⟨j+1,by omega,by rw[Int.natCast_add];rfl,yay fun k hk=>?_,by first|exact rfl|exact trivial⟩,by simp[intOf];omega⟩;by_cases e:k<j
    ·exact HP.out k e
    ·obtain rfl:k=j:=by omega
     exact hp.out
  ·obtain rfl:j=K.n:=by omega
   have hm:=yay (zr5 HP.out)
   go_wp2_with fail
   go_ret
   exact⟨by rw[hm.out];rfl,rfl⟩
theorem zrq(h:MPre K va S vT w)(hk:K.k≤65536):Calls Try.prog 151 #[.pointer (some ⟨K.mb,0,none⟩)] w fun e w'=>∃v,e = .returned v∧w'.ownsRow w.heap.size 2 1 v (3*S.k) (zdw (zd9 S))∧Below w.heap.size w w':=by
 obtain⟨i1,hi1,hz1,hz11,hz12⟩:=info_parts z07;obtain⟨n,hn⟩:∃n,K.k=n:=⟨_,rfl⟩;have hkn:=h.hk;obtain⟨N,hN⟩:∃N,w.heap.size=N:=⟨_,rfl⟩;have facts:Hid (∀wr,Below N w wr→wr.cell? ⟨K.mb,0,none⟩=some (.slice K.ca n K.cN)∧∀j,j<n→K.ca=some ⟨K.cb,0,none⟩∧wr.cell? ⟨K.cb,j*4,none⟩=some (.int .i64 (S.W j))∧wr.cell? ⟨K.cb,j*4+1,none⟩=some (.bool (S.F j))∧wr.cell? ⟨K.cb,j*4+2,none⟩=some (.int .i64 (S.B j))):=yay fun wr hb=>by
  have h':=h.below hb hN;refine⟨by rw[h'.cellM 0,←hn];rfl,fun j hj=>?_⟩;have hj':j<K.k:=by omega
  exact⟨(h.cs (by omega)).1,h'.cellC hj' (k:=0) (by decide),h'.cellC hj' (k:=1) (by decide),h'.cellC hj' (k:=2) (by decide)⟩
 rw[hkn,hn];unfold zd9;rw[hkn,hn,hN];have hn6:n≤65536:=by omega
 obtain⟨p0,_⟩:=facts.out w (Below.refl _ _);clear h hk;replace hkn:=yay hkn;replace hN:=yay hN;replace hn:=yay hn;go_enter Try.func151,Try.ntmps151
 go_wp2_with fail
 clear p0
 go_loopw [3,4] (fun va iv wr=>∃(j:Nat),j≤n∧iv = .int .i64 j∧Hid (wr.ownsRow N 2 1 va (3*j) (zdw (zj0 j S.W S.F S.B)))∧Hid (Below N w wr)) (fun _ iv _=>n - (intOf iv).toNat)
 case atStart=>exact⟨0,by omega,rfl,yay (World.ownsRow_nil _ _ _ _),yay (Below.refl _ _)⟩
 case round =>
  obtain⟨j,hj,rfl,HS,HB⟩:=hrel;obtain⟨vp,vc,rfl⟩:=zbe HS.out;obtain⟨p0,pj⟩:=facts.out wr HB.out;by_cases hlt2:j<n
  ·have hlt':(j:Int)<(n:Int):=by omega
   have hj0:(0:Int)≤(j:Int):=by omega
   have e1:IntKind.i64.wrap ((j:Int)+1)=((j+1:Nat):Int):=by rw[IntKind.wrap_i64];omega
   obtain⟨hca,q0,q1,q2⟩:=pj j hlt2;rw[hca] at p0;clear pj;have qp:=yay (hN.out▸HB.out.size);have hcs:=yay (zfn j S.W S.F S.B);replace hca:=yay hca;generalize hWv:S.W j=xW at *;generalize hFv:S.F j=xF at *;generalize hBv:S.B j=xB at *;replace hWv:=yay hWv;replace hFv:=yay hFv;replace hBv:=yay hBv;obtain⟨M,hM⟩:∃M,wr.heap.size=M:=⟨_,rfl⟩;have HSx:=zpz wr.drew xW (bit xF) xB;rw[show wr.drew.heap.size=M from hM] at HSx
   have HO1:=(show wr.drew.ownsRow N 2 1 _ (3*j) _ from HS.out).alloc (.cells #[.int .i64 xW,.int .i64 (bit xF),.int .i64 xB] 2)
   have HBa:=HB.out.drew.alloc qp.out (.cells #[.int .i64 xW,.int .i64 (bit xF),.int .i64 xB] 2);obtain⟨v',w2,hrun,ha⟩:=zb0 (P:=Try.prog) (wr.drew.alloc (.cells #[.int .i64 xW,.int .i64 (bit xF),.int .i64 xB] 2)) N 22 22 2 i1 _ _ Try.underlying22 hi1 hz1 hz11 hz12 rfl (.slice vp (3*j) vc) (3*j) _ HO1 (.slice (some ⟨M,0,none⟩) 3 3) 3 _ HSx (by unfold maxLen;omega) (by omega) (by have:=qp.out;simp;omega);obtain⟨p',c',rfl⟩:=zbe ha.1;have HRUN:Hid ((Builtin.append_ #[22,22] 22 #[.slice vp (3*j) vc,.slice (some ⟨M,0,none⟩) 3 3]).run Try.prog (wr.drew.alloc (.cells #[.int .i64 xW,.int .i64 (bit xF),.int .i64 xB] 2)) = .ok (.slice p' (3*j+3) c') w2):=yay hrun;have HNX:Hid (w2.ownsRow N 2 1 (.slice p' (3*(j+1)) c') (3*(j+1)) (zdw (zj0 (j+1) S.W S.F S.B))∧Below N w w2):=yay ⟨by
    have:=ha.1;rw[hcs.out,show 3*(j+1)=3*j+3 by omega,zkd];exact this,zd1 HO1 HBa (by have:=qp.out;simp;omega) ha.2.1⟩
   replace hM:=yay hM;clear hrun ha HSx HO1 HBa;cases xF with
   | false =>
    rw[show bit false=0 from rfl] at HRUN
    go_upto_region 8 with fail
    have hM':=hM.out
    go_region_law (refine za1 (by rfl) _ _ 22 22 (by rfl) (.slice vp (3*j) vc) (.slice (some ⟨M,0,none⟩) 3 3) (by rfl) (by rfl) HRUN.out ?_)
    all_goals go_wp2_with fail
    all_goals exact⟨⟨j+1,by omega,by rw[Int.natCast_add];rfl,yay HNX.out.1,yay HNX.out.2⟩,by simp[intOf];omega⟩
   | true =>
    rw[show bit true=1 from rfl] at HRUN
    go_upto_region 8 with fail
    have hM':=hM.out
    go_region_law (refine za1 (by rfl) _ _ 22 22 (by rfl) (.slice vp (3*j) vc) (.slice (some ⟨M,0,none⟩) 3 3) (by rfl) (by rfl) HRUN.out ?_)
    all_goals go_wp2_with fail
    all_goals exact⟨⟨j+1,by omega,by rw[Int.natCast_add];rfl,yay HNX.out.1,yay HNX.out.2⟩,by simp[intOf];omega⟩
  ·have hlt':¬(j:Int)<(n:Int):=by omega
   obtain rfl:j=n:=by omega
   clear pj
   go_wp2_with fail
   go_ret
   exact⟨_,rfl,HS.out,HB.out⟩
end
def zmk(l:List Int):GMc:=⟨min l.length 65536,fun j=>l.getD j 0,fun _=>false,fun j=>l.getD j 0,fun _=>0,0,fun _=>zc3 []⟩
def zo3(LL:List (List OpD))(i:Nat):List OpD:=(LL.getD i []).take 65536
theorem zoa(LL:List (List OpD))(i:Nat):(zo3 LL i).length≤65536:=by unfold zo3;rw[List.length_take];omega
def zo1(S0:GMc)(LL:List (List OpD))(n mo:Nat)(l:List Int):zkm:=zdh n mo ⟨zbx S0 (zo3 LL) n,[]⟩ l
def zkv(S0:GMc)(LL:List (List OpD))(sch:List Int)(n mo:Nat):zkm:=zef n mo mo (zo1 S0 LL n mo sch)
def runT(S0:GMc)(LL:List (List OpD))(sch:List Int)(n mo:Nat):Tr:=⟨(List.range n).map fun i=>((zkv S0 LL sch n mo).S.T i).ans,(zkv S0 LL sch n mo).ord,zd9 (zkv S0 LL sch n mo).S,ze0 (zkv S0 LL sch n mo).S n⟩
def trM(l:List Int)(LL:List (List OpD))(sch:List Int)(most:Int):Tr:=runT (zmk l) LL sch (min LL.length 64) (min (max most 0) 1048576).toNat
theorem z4w{LL:List (List OpD)}(hops:∀L∈LL,∀o∈L,o.Ok)(i:Nat):∀o∈zo3 LL i,o.Ok:=fun o ho=>by
 unfold zo3 at ho;have h1:=List.mem_of_mem_take ho;by_cases q:i<LL.length
 ·rw[List.getD_eq_getElem?_getD,List.getElem?_eq_getElem q] at h1;exact hops _ (List.getElem_mem q) o h1
 ·rw[List.getD_eq_getElem?_getD,List.getElem?_eq_none (by omega)] at h1;simp at h1
theorem z2u{l:List Int}(hl:∀x∈l,zcm x):NumOk (zmk l):=by
 have h:∀j,j<min l.length 65536→zcm (l.getD j 0):=fun j hj=>by
  rw[List.getD_eq_getElem?_getD,List.getElem?_eq_getElem (by omega)];exact hl _ (List.getElem_mem (by omega))
 exact⟨h,h,fun j hj=>Int.le_refl _⟩
theorem z2m{l:List Int}{LL:List (List OpD)}(hl:∀x∈l,zcm x)(hops:∀L∈LL,∀o∈L,o.Ok)(sch:List Int)(most:Int) :
  GRel (min LL.length 64) (moF most) (zh5 l LL sch most) (zkv (zmk l) LL sch (min LL.length 64) (moF most))∧(zkv (zmk l) LL sch (min LL.length 64) (moF most)).S.k=min l.length 65536:=by
 have hag:Agr (stC l) (zmk l):=⟨fun _ _=>rfl,fun _ _=>rfl,fun _ _=>rfl,fun _ _=>rfl,rfl⟩;have h0:=(GRel.start (mo:=moF most) (S0:=zmk l) (m0:=⟨stC l,fun _=>[]⟩) (L:=zo3 LL) hag (fun _=>rfl) rfl (z2u hl) (zoa LL) (z4w hops) (min LL.length 64)).1;have h1:=(h0.fold sch).rounds (moF most);have k1:∀(f:List Int) (r:zkm),(zdh (min LL.length 64) (moF most) r f).S.k=r.S.k:=fun f=>by
  induction f with
  | nil=>intro r;rfl
  | cons a f ih =>
   intro r;show(zdh _ _ (zc7 _ _ r a) f).S.k=_;rw[ih];unfold zc7;split
   ·exact settle_k.trans step_n.2
   ·rfl
 have k2:∀(f:Nat) (r:zkm),(zef (min LL.length 64) (moF most) f r).S.k=r.S.k:=fun f=>by
  induction f with
  | zero=>intro r;rfl
  | succ f ih =>
   intro r;unfold zef;split
   ·rw[ih,k1]
   ·rfl
 refine⟨h1,?_⟩;show(zef _ _ _ (zdh _ _ ⟨zbx (zmk l) (zo3 LL) (min LL.length 64),[]⟩ sch)).S.k=_;rw[k2,k1];exact(zgk (S0:=zmk l) (L:=zo3 LL) (Int.le_refl _) (zoa LL) (min LL.length 64)).2.k
theorem trM_eq{l:List Int}{LL:List (List OpD)}(hl:∀x∈l,zcm x)(hops:∀L∈LL,∀o∈L,o.Ok)(sch:List Int)(most:Int):trM l LL sch most=trC l LL sch most:=by
 obtain⟨h1,hk⟩:=z2m hl hops sch most;unfold trM runT trC;show(⟨(List.range (min LL.length 64)).map fun i=>((zkv (zmk l) LL sch (min LL.length 64) (moF most)).S.T i).ans,(zkv (zmk l) LL sch (min LL.length 64) (moF most)).ord,zd9 (zkv (zmk l) LL sch (min LL.length 64) (moF most)).S,ze0 (zkv (zmk l) LL sch (min LL.length 64) (moF most)).S (min LL.length 64)⟩:Tr)=_;generalize zkv (zmk l) LL sch (min LL.length 64) (moF most)=r at *;generalize zh5 l LL sch most=s at *;have a1:(List.range (min LL.length 64)).map s.m.an=(List.range (min LL.length 64)).map fun i=>(r.S.T i).ans:=by
  apply List.map_congr_left;intro i hi;exact h1.an i (List.mem_range.1 hi)
 have a3:ze9 (min l.length 65536) s.m.st=zd9 r.S:=by
  unfold ze9 zd9;rw[hk];exact zxt fun j hj=>⟨h1.agr.W j (by omega),h1.agr.F j (by omega),h1.agr.B j (by omega)⟩
 rw[a1,h1.ord,a3,h1.left]
theorem zz0:(Try.prog.info? 262).map (fun i=>(i.zero,i.size,i.bytes))=some (some (.agg #[.int .i64 0,.bool false,.int .i64 0,.int .i64 0]),4,32):=by kernel_rfl
def zkg(l:List Int)(j:Nat):List Value:=(List.range j).flatMap (ccV (zmk l))
theorem zh7(l:List Int)(j:Nat):zkg l (j+1)=zkg l j++ccV (zmk l) j:=by
 unfold zkg;rw[List.range_succ,List.flatMap_append];simp
theorem zjz(l:List Int)(j:Nat):(zkg l j).length=j*4:=by
 induction j with
 | zero=>rfl
 | succ j ih=>rw[zh7,List.length_append,ih];simp[ccV];omega
theorem zng(l:List Int):∀(j:Nat) {i k:Nat},i<j→k<4→(zkg l j)[i*4+k]?=(ccV (zmk l) i)[k]?
 | 0,i,k,hi,_=>by omega
 | j+1,i,k,hi,hk=>by
  rw[zh7];by_cases e:i=j
  ·subst e;rw[List.getElem?_append_right (by rw[zjz];omega),zjz,show i*4+k - i*4=k by omega]
  ·rw[List.getElem?_append_left (by rw[zjz];omega)];exact zng l j (by omega) hk
structure NewM(w0:World)(mb:Nat)(vC:Value)(l:List Int)(j:Nat)(w:World):Prop where
 mach:w.heap[mb]?=some (.cells #[vC,.slice none 0 0,.int .i64 0] 260 (0,0))
 row:w.ownsRow mb 262 4 vC j (zkg l j)
 low:Below mb w0 w
 bs:w0.heap.size=mb
 lt:mb<w.heap.size
theorem NewM.alloc{w0 w:World}{mb j:Nat}{vC:Value}{l:List Int}(h:NewM w0 mb vC l j w)(o:Obj):NewM w0 mb vC l j (w.alloc o) :=
 ⟨(Below.heap_alloc _ _ _ h.lt).trans h.mach,h.row.alloc o,h.low.alloc (by have:=h.lt;omega) o,h.bs,by have:=h.lt;simp;omega⟩
theorem NewM.drew{w0 w:World}{mb j:Nat}{vC:Value}{l:List Int}(h:NewM w0 mb vC l j w):NewM w0 mb vC l j w.drew:=⟨h.mach,h.row,h.low.drew,h.bs,h.lt⟩
theorem NewM.push{w0 w w2:World}{mb j:Nat}{vC v':Value}{l:List Int}(h:NewM w0 mb vC l j w)(hA:zjd w mb 262 vC j 1 (zkg l j++ccV (zmk l) j) v' w2):w2.heap[mb]?=w.heap[mb]?∧NewM w0 mb v' l (j+1) (w2.setCell ⟨mb,0,none⟩ v'):=by
 obtain⟨ho,hg,hsh⟩:=hA;have hmb:w2.heap[mb]?=w.heap[mb]?:=hg.block mb h.lt fun z=>by
  obtain⟨cc,hcc⟩:=zak h.row z.symm;rw[h.mach] at hcc;simp at hcc
 have hm2:=hmb.trans h.mach;have hB:Below mb w0 w2:=by
  have hb:=h.low;have hb2:=h.bs;refine⟨hg.os.trans hb.os,hg.tape.trans hb.tape,hg.output.trans hb.output,Nat.le_trans hb.size hg.size,fun b qr=>(hg.block b (by have:=h.lt;omega) fun z=>?_).trans (hb.block b qr)⟩;have:=(zb8 h.row z.symm).1;omega
 refine⟨hmb,zal hm2 0 v',?_,hB.setCell (yax _) _,h.bs,by have:=h.lt;have:=hg.size;simp[World.setCell];omega⟩;rw[zh7];exact zaq ho fun g o hgo hh=>(Below.heap_setCell _ _ _ _ fun z=>by
  obtain⟨cc,hcc⟩:=zak ho hgo;rw[z,hm2] at hcc;simp at hcc).trans hh
theorem zzb(w:World)(x:Int):z6h (w.alloc (.cells #[.int .i64 x,.bool false,.int .i64 x,.int .i64 0] 262)) (.slice (some ⟨w.heap.size,0,none⟩) 1 1) 1 [.int .i64 x,.bool false,.int .i64 x,.int .i64 0] :=
 ⟨rfl,by intro u hu;simp at hu;rcases hu with rfl|rfl|rfl|rfl<;>rfl,.inr ⟨_,1,rfl,fun j u hj=>by
  have e:(⟨w.heap.size,0,none⟩:Addr).add j=⟨w.heap.size,j,none⟩:=by simp[Addr.add];try(intro h;exact h.symm)
  rw[e,zab (heap_alloc_new w _) j]
  simpa using hj⟩⟩
theorem zww{vl:Value}{l:List Int}{w:World}(hv:IntsAt w vl l)(hl:l.length≤4611686018427387904) :
  Calls Try.prog 98 #[vl] w fun e w'=>e = .returned (.pointer (some ⟨w.heap.size,0,none⟩))∧∃vC,NewM w w.heap.size vC l (min l.length 65536) w':=by
 obtain⟨i1,hi1,z1,z2,z3⟩:=info_parts zz0;obtain⟨pa,ca,rfl,qa⟩:=hv;replace qa:=yay qa;obtain⟨mb,hmb⟩:∃N,w.heap.size=N:=⟨_,rfl⟩;have H0:Hid (NewM w mb (.slice none 0 0) l 0 (w.alloc (.cells #[.slice none 0 0,.slice none 0 0,.int .i64 0] 260))):=yay ⟨by rw[←hmb];exact heap_alloc_new _ _,World.ownsRow_nil _ _ _ _,by rw[←hmb];exact(Below.refl _ _).alloc (yax _) _,hmb,by simp;omega⟩;rw[hmb];replace hmb:=yay hmb;go_enter Try.func98,Try.ntmps98
 go_wp2_with fail
 rw[hmb.out]
 go_loopw [4] (fun iv wr=>∃(j:Nat) (vC:Value),j≤min l.length 65536∧iv = .int .i64 j∧Hid (NewM w mb vC l j wr)) (fun iv _=>65536 - (intOf iv).toNat)
 case atStart=>exact⟨0,_,by omega,rfl,H0⟩
 case round =>
  obtain⟨j,vC,hj,rfl,HN⟩:=hrel;obtain⟨vp,vcc,e0⟩:=zbe HN.out.row;subst e0;by_cases qr:j<min l.length 65536
  ·have hlt':(j:Int)<(l.length:Int):=by omega
   have hlt64:(j:Int)<65536:=by omega
   have e1:IntKind.i64.wrap ((j:Int)+1)=((j+1:Nat):Int):=by rw[IntKind.wrap_i64];omega
   obtain⟨x,hx⟩:∃x,l[j]?=some x:=⟨_,List.getElem?_eq_getElem (by omega)⟩;obtain⟨b,off,rfl,hcl⟩:=qa.out (by intro z;rw[z] at hx;simp at hx);have c0:=hcl j x hx;have c1:wr.cell? ⟨b,off+j,none⟩=some (.int .i64 x):=(World.cell?_of_block (w:=w) (HN.out.low.block _ (by rw[←hmb.out];exact World.block_lt_of_cell? w _ c0))).trans c0;have hcc:ccV (zmk l) j=[.int .i64 x,.bool false,.int .i64 x,.int .i64 0]:=by
    have:l.getD j 0=x:=by rw[List.getD_eq_getElem?_getD,hx];rfl
    show[Value.int .i64 (l.getD j 0),.bool false,.int .i64 (l.getD j 0),.int .i64 0]=_;rw[this]
   have m:=HN.out.mach;have m0:=zab m 0;simp only[yac,yaa] at m0;have m0a:=zcl (.cells #[.int .i64 x,.bool false,.int .i64 x,.int .i64 0] 262) m0;obtain⟨M,hM⟩:∃M,wr.heap.size=M:=⟨_,rfl⟩;have HND:=HN.out.drew;have HSx:=zzb wr.drew x;rw[show wr.drew.heap.size=M from hM] at HSx
   have HA:=HND.alloc (.cells #[.int .i64 x,.bool false,.int .i64 x,.int .i64 0] 262);have hlow:mb≤(wr.drew.alloc (.cells #[.int .i64 x,.bool false,.int .i64 x,.int .i64 0] 262)).heap.size:=by have:=HA.lt;omega
   obtain⟨v',w2,hrun,ha⟩:=zgn (P:=Try.prog) (wr.drew.alloc (.cells #[.int .i64 x,.bool false,.int .i64 x,.int .i64 0] 262)) mb 257 257 262 i1 _ _ Try.underlying257 hi1 z1 z2 z3 rfl (.slice vp j vcc) j _ HA.row (.slice (some ⟨M,0,none⟩) 1 1) 1 _ HSx (by unfold maxLen;omega) (by omega) hlow;obtain⟨p',c',rfl⟩:=zbe ha.1;have HRUN:Hid ((Builtin.append_ #[257,257] 257 #[.slice vp j vcc,.slice (some ⟨M,0,none⟩) 1 1]).run Try.prog (wr.drew.alloc (.cells #[.int .i64 x,.bool false,.int .i64 x,.int .i64 0] 262)) = .ok (.slice p' (j+1) c') w2):=yay hrun;obtain⟨z1',z2'⟩:=HA.push (v' := .slice p' (j+1) c') (w2:=w2) (by rw[hcc];exact ha);have z3':=zab (z1'.trans HA.mach) 0;simp only[yac,yaa,yab] at z3';have z4':=zam (z1'.trans HA.mach) 0;have HNX:=yay z2';replace hM:=yay hM;clear hrun ha HSx HND hlow z1' z2' hcl c0;replace HA:=yay HA;replace m:=yay m;replace hx:=yay hx;replace HN:=yay HN;replace hcc:=yay hcc;go_upto_region 5 with fail
   have hM':=hM.out
   go_region_law (refine za1 (by rfl) _ _ 257 257 (by rfl) (.slice vp j vcc) (.slice (some ⟨M,0,none⟩) 1 1) (by rfl) (by rfl) HRUN.out ?_)
   all_goals go_wp2_with fail
   all_goals exact⟨⟨j+1,_,by omega,by rw[Int.natCast_add];rfl,HNX⟩,by simp[intOf];omega⟩
  ·obtain rfl:j=min l.length 65536:=by omega
   replace HN:=yay HN;by_cases hlt':((min l.length 65536:Nat):Int)<(l.length:Int)
   ·have h64:¬((min l.length 65536:Nat):Int)<65536:=by omega
    go_wp2_with fail
    go_ret
    exact⟨rfl,_,HN.out.out⟩
   ·go_wp2_with fail
    go_ret
    exact⟨rfl,_,HN.out.out⟩
end Go.Proofs.Ytofacoojpgkbiaa.Cl
