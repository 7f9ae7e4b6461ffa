/-
  A part of a proof. No condition of its own.
-/
import Derived.Test.YtofacoojpgkbiaaCKepP26
set_option linter.unusedVariables false
set_option maxHeartbeats 8000000
set_option linter.unusedSimpArgs false
namespace Go.Proofs.Ytofacoojpgkbiaa
open Go.Conc Go.RowKit
open Go.ConcN (upd upd_ne upd_same)
set_option maxRecDepth 100000
structure Agr (c:Nat) (s:GateS) (S:GMc):Prop where
 ser:(s.ser:Int)=S.ser+c
 mem:s.mem=S.L
 num:∀ j,j < 64→s.num j=S.N j
structure XInv (t:GT):Prop where
 ops:∀ o∈t.ops,o.Ok
 ser:2≤t.pc→0≤t.ser
 place:6≤(opG t).kind→3≤t.pc→0≤t.place
def NumOk (S:GMc):Prop:=∀ j,j < 64→zb7 (S.N j)
def SimR (c mo i F:Nat) (m:SM GateS) (φ:SM GateS×Co (SM GateS)) (S':GMc):Prop:=∃ s' F',φ=(⟨s',upd m.an i (S'.T i).ans⟩,coG c mo i F' (S'.T i))∧Agr c s' S'∧(F≤F'+1∨mo≤F')
section
variable {c mo i F:Nat} {m m1:SM GateS} {S S1:GMc} {t:GT}
theorem wrap_in {x:Int} (h:zb7 x):wrap64 x=x:=by unfold wrap64;omega
theorem zbl {r:Ans} (ho:(S1.T i).ops=t.ops) (hat:(S1.T i).at_=t.at_) (han:(S1.T i).ans=t.ans) (hag:Agr c m1.st S1) (hm:m1.an=m.an) (ha:m.an i=t.ans):SimR c mo i F m (zc2 mo i (ze3 t) r m1) (zau (zfx S1 i r) i):=by
 have h:=zek c mo i ((zeo (S1.T i) r).ops.length+1 - (zeo (S1.T i) r).at_) (zeo (S1.T i) r) (m1.tell i r) (by omega) rfl (by show upd m1.an i (m1.an i++[r]) i=(S1.T i).ans++[r];rw [upd_same,hm,ha,han]);have e:(zeo (S1.T i) r).ops.drop (zeo (S1.T i) r).at_=ze3 t:=by
  show (S1.T i).ops.drop ((S1.T i).at_+1)=t.ops.drop (t.at_+1);rw [ho,hat]
 rw [e,zls] at h;have e1:(zfx S1 i r).T i=zeo (S1.T i) r:=GMc.setT_T _ _ _;have e2:zau (zfx S1 i r) i=S1.setT i (zbe ((zeo (S1.T i) r).ops.length+1 - (zeo (S1.T i) r).at_) (zeo (S1.T i) r)):=by
  unfold zau;rw [zcj,e1];unfold zfx;rw [GMc.setT_setT]
 rw [e2];refine ⟨m1.st,mo,?_,⟨hag.ser,hag.mem,hag.num⟩,.inr (yax _)⟩;rw [GMc.setT_T];show zid (doG (idL GateS) mo) i (ze3 t) (m1.tell i r)=_;rw [h];unfold bM;rw [hm]
theorem zd0 {φ:SM GateS×Co (SM GateS)} {F':Nat} (hl:(S1.T i).at_ < (S1.T i).ops.length) (hpc:(S1.T i).pc≠0) (hag:Agr c m1.st S1) (hm:m1.an=m.an) (ha:m.an i=(S1.T i).ans) (hφ:φ=(m1,coR c mo i F' (S1.T i))) (hF:F≤F'+1):SimR c mo i F m φ (zau S1 i):=by
 have e:zau S1 i=S1:=by
  unfold zau;rw [zcj,zc0 (fun z=>hpc z.1),zel]
 rw [e];refine ⟨m1.st,F',?_,hag,.inl hF⟩;rw [hφ,← ha,zfh];unfold coG;rw [if_neg (by omega),← hm]
theorem zpi {l:List Int} (h:l.Nodup) (a:Int):l.erase a=zmz l a:=by
 rw [h.erase_eq_filter];rfl
theorem zrq {m:SM GateS} {S1:GMc} (h67:(opG t).kind=6∨(opG t).kind=7) (ho:(S1.T i).ops=t.ops) (hat:(S1.T i).at_=t.at_) (han:(S1.T i).ans=t.ans) (hok:(opG t).Ok) (hag:Agr c m.st S1) (ha:m.an i=t.ans) {n p:Int} (hn:(S1.T i).least=n) (hp:(S1.T i).place=p) (h0:(S1.T i).list.length=0→n=(opG t).a) (h1:(S1.T i).list.length=0→p = -1):SimR c mo i F m (zp0 mo i t n p m) (zau (zgs S1 i (opG t)) i):=by
 unfold zp0 zgs;by_cases k6:(opG t).kind=6
 ·rw [if_pos k6,if_pos k6,hn,hp];exact zbl ho hat han hag rfl ha
 ·rw [if_neg k6,if_neg k6,hn,hp];have hb:=hok.b;have hA:=hok.a;have e:((opG t).a < -9223372036854775808+max (opG t).b 1∨(opG t).a - max (opG t).b 1≤n)↔((S1.T i).list.length=0∨zra n (opG t).a (opG t).b=true):=by
   unfold zra;have e1:(if (opG t).b < 1 then (1:Int) else (opG t).b)=max (opG t).b 1:=by split<;>omega
   rw [e1];simp only [Bool.or_eq_true,decide_eq_true_eq];unfold wrap64;have hx:1≤max (opG t).b 1∧max (opG t).b 1≤9223372036854775807:=by omega
   generalize max (opG t).b 1=x at *;constructor
   ·intro z;by_cases q:(S1.T i).list.length=0
    ·exact .inl q
    ·right;omega
   ·intro z;rcases z with z|z
    ·right;rw [h0 z];omega
    ·omega
  by_cases q:(opG t).a < -9223372036854775808+max (opG t).b 1∨(opG t).a - max (opG t).b 1≤n
  ·rw [if_pos q,if_pos (e.1 q)];exact zbl ho hat han hag rfl ha
  ·rw [if_neg q,if_neg (fun z=>q (e.2 z))];exact zbl ho hat han hag rfl ha
theorem zwo (h:Agr c m.st S) (a b:Int):Agr c (m.st.lay a b) (S.setN a.toNat b):=⟨h.ser,h.mem,fun j hj=>by
 show upd m.st.num a.toNat b j=upd S.N a.toNat b j;by_cases e:j=a.toNat
 ·subst e;rw [upd_same,upd_same]
 ·rw [upd_ne _ _ e,upd_ne _ _ e];exact h.num j hj⟩
theorem zuo {l:List Int} {p0:Int} {rest:Fu (SM GateS)} (hT:S.T i=t) (hl:t.at_ < t.ops.length) (hsr:0≤t.ser) (h0:0≤S.ser) (hA:Agr c m.st S) (ha:m.an i=t.ans) (hr:rest m=(m,coR c mo i F { t with pc:=1 })) :
  SimR c mo i (F+1) m (zys (idL GateS) (t.ser+c).toNat l (fun x=>if x then kE mo i t 0 else rest) m) (zau (zr5 (pcM S i p0) i l) i):=by
 have e1:(pcM S i p0).T i={ t with pc:=p0 }:=by rw [← hT];exact GMc.setT_T _ _ _
 have hse:=hA.ser;unfold zr5;rw [e1];show SimR c mo i (F+1) m (if m.st.ser=(t.ser+c).toNat then kE mo i t 0 (m.with { m.st with ser:=m.st.ser+1,mem:=l }) else rest m) (zau (if S.ser≠t.ser then _ else _) i);by_cases q:S.ser=t.ser
 ·rw [if_pos (by omega),if_neg (fun z=>z q)];have:=zbl (c:=c) (mo:=mo) (F:=F+1) (m:=m) (t:=t) (r:=⟨true,0,[]⟩) (S1:=({ pcM S i p0 with L:=l,ser:=S.ser+1 }:GMc)) (m1:=m.with { m.st with ser:=m.st.ser+1,mem:=l }) (i:=i)
   (by show ((pcM S i p0).T i).ops=_;rw [e1]) (by show ((pcM S i p0).T i).at_=_;rw [e1]) (by show ((pcM S i p0).T i).ans=_;rw [e1]) ⟨by show ((m.st.ser+1:Nat):Int)=S.ser+1+c;omega,rfl,hA.num⟩ rfl ha
  have e2:zfx ({ pcM S i p0 with L:=l,ser:=S.ser+1 }:GMc) i ⟨true,0,[]⟩=({ pcM S i p0 with L:=l,ser:=S.ser+1 }:GMc).setT i (zeo { t with pc:=p0 } ⟨true,0,[]⟩):=by
   unfold zfx;show GMc.setT _ i (zeo ((pcM S i p0).T i) _)=_;rw [e1]
  rw [e2] at this;exact this
 ·rw [if_neg (by omega),if_pos q,hr];have e3:(pcM S i p0).setT i { t with pc:=1 }=pcM S i 1:=by
   unfold pcM;rw [GMc.setT_setT,hT]
  show SimR c mo i (F+1) m _ (zau ((pcM S i p0).setT i { t with pc:=1 }) i);rw [e3];have e4:(pcM S i 1).T i={ t with pc:=1 }:=by rw [← hT];exact GMc.setT_T _ _ _
  refine zd0 (F':=F) (S1:=pcM S i 1) (m1:=m) ?_ ?_ ⟨hA.ser,hA.mem,hA.num⟩ rfl ?_ ?_ (yax _)
  ·rw [e4];exact hl
  ·rw [e4];show (1:Int)≠0;decide
  ·rw [e4];exact ha
  ·rw [e4]
theorem SimR.less {φ:SM GateS×Co (SM GateS)} (h:SimR c mo i (F+1) m φ S):SimR c mo i F m φ S:=by
 obtain ⟨s',F',a,b,d⟩:=h;exact ⟨s',F',a,b,by omega⟩
theorem zne (hok:GTOk (S.T i)) (hs:zcs (S.T i)) (hx:XInv (S.T i)) (hN:NumOk S) (hser:0≤S.ser) (hmem:zho S.L) :
  ∃ ψ,coG c mo i (F+1) (S.T i)=coF ψ∧∀ m:SM GateS,Agr c m.st S→m.an i=(S.T i).ans→SimR c mo i (F+1) m (ψ m) (zau (zb0 S i) i):=by
 obtain ⟨t,hT⟩:∃ t,S.T i=t:=⟨_,rfl⟩;rw [hT] at hok hs hx;have hlt:=hs.at_;have hoOk:(opG t).Ok:=hx.ops _ (by
  unfold opG;rw [List.getD_eq_getElem?_getD,List.getElem?_eq_getElem hlt];exact List.getElem_mem hlt)
 obtain ⟨k1,k7⟩:=hs.kind;have hA4:=hs.a;have ep:∀ p,(pcM S i p).T i={ t with pc:=p }:=fun p=>by rw [← hT];exact GMc.setT_T _ _ _
 have el:(ldM S i).T i={ t with pc:=2,list:=S.L,ser:=S.ser }:=by rw [← hT];exact GMc.setT_T _ _ _
 have p0:=hs.pc0;unfold coG;rw [hT,if_neg (by omega)];have hst:zb0 S i=zb0 S i:=rfl
 conv at hst=>rhs;unfold zb0
 rw [hT] at hst;by_cases e3:(opG t).kind=3
 ·rw [if_pos e3] at hst;obtain ⟨a0,a1⟩:=hA4 (by omega);refine ⟨fun m=>kE mo i t 0 (m.with (m.st.lay (opG t).a (opG t).b)),?_,fun m hA ha=>?_⟩
  ·unfold coR;rw [if_neg (by omega),if_neg (by omega),if_pos e3]
  ·rw [hst];exact zbl (t:=t) (r:=⟨true,0,[]⟩) (m1:=m.with (m.st.lay (opG t).a (opG t).b)) (by rw [GMc.setN_T,ep]) (by rw [GMc.setN_T,ep]) (by rw [GMc.setN_T,ep]) (zwo (S:=pcM S i 2) ⟨hA.ser,hA.mem,hA.num⟩ _ _) rfl ha
 rw [if_neg e3] at hst;by_cases e4:(opG t).kind=4
 ·rw [if_pos e4] at hst;obtain ⟨a0,a1⟩:=hA4 (by omega);refine ⟨fun m=>zc2 mo i (ze3 t) ⟨true,zyv 0 (m.st.num (opG t).a.toNat),[]⟩ m,?_,fun m hA ha=>?_⟩
  ·unfold coR;rw [if_neg (by omega),if_neg (by omega),if_neg (by omega),if_pos e4]
  ·rw [hst];simp only;have e9:zyv 0 (m.st.num (opG t).a.toNat)=S.N (opG t).a.toNat:=by
    rw [hA.num _ (by omega)];unfold zyv;rw [Int.zero_add];exact wrap_in (hN _ (by omega))
   rw [e9];exact zbl (t:=t) (by rw [ep]) (by rw [ep]) (by rw [ep]) ⟨hA.ser,hA.mem,hA.num⟩ rfl ha
 rw [if_neg e4] at hst;by_cases e1:(opG t).kind=1
 ·rw [if_pos e1] at hst;obtain ⟨a0,a1⟩:=hA4 (by omega);by_cases z1:t.pc=1
  ·rw [if_pos z1] at hst;refine ⟨fun m=>zx4 (idL GateS) (opG t).a (opG t).b (kE mo i t) (znq (idL GateS) (opG t).a (opG t).b (kE mo i t) F) m.st.ser m.st.mem m,?_,fun m hA ha=>?_⟩
   ·unfold coR;rw [if_pos e1,if_pos z1];rfl
   ·rw [hst];simp only;unfold zx4;rw [hA.mem];by_cases q:(opG t).a∈S.L
    ·rw [if_pos q,if_pos q];exact zbl (t:=t) (by rw [el]) (by rw [el]) (by rw [el]) ⟨hA.ser,hA.mem,hA.num⟩ rfl ha
    ·rw [if_neg q,if_neg q];unfold setF;rw [if_neg (by omega),zec];refine zd0 (F':=F) (S1:=ldM S i) (m1:=m) (by rw [el];exact hlt) (by rw [el];show (2:Int)≠0;decide) ⟨hA.ser,hA.mem,hA.num⟩ rfl (by rw [el];exact ha) ?_ (yax _);rw [el];unfold coR;rw [if_pos (show (opG ({ t with pc:=2,list:=S.L,ser:=S.ser }:GT)).kind=1 from e1),if_neg (by show ¬ (2:Int)=1;decide),if_pos rfl]
     have e9:m.st.ser=(S.ser+c).toNat:=by have:=hA.ser;omega
     rw [e9];rfl
  ·rw [if_neg z1] at hst;by_cases z2:t.pc=2
   ·rw [if_pos z2] at hst;refine ⟨fun m=>zbw (zys (idL GateS) (t.ser+c).toNat (t.list++[(opG t).a]) fun x=>if x then kE mo i t 0 else znq (idL GateS) (opG t).a (opG t).b (kE mo i t) (F+1)) (m.with (m.st.lay (opG t).a (opG t).b)),?_,fun m hA ha=>?_⟩
    ·unfold coR;rw [if_pos e1,if_neg z1,if_pos z2]
    ·rw [hst];simp only;rw [zec];refine zd0 (F':=F+1) (S1:=(pcM S i 3).setN (opG t).a.toNat (opG t).b) (m1:=m.with (m.st.lay (opG t).a (opG t).b)) (by rw [GMc.setN_T,ep];exact hlt) (by rw [GMc.setN_T,ep];show (3:Int)≠0;decide) (zwo (S:=pcM S i 3) ⟨hA.ser,hA.mem,hA.num⟩ _ _) rfl (by rw [GMc.setN_T,ep];exact ha) ?_ (Nat.le_succ _);rw [GMc.setN_T,ep];unfold coR;rw [if_pos (show (opG ({ t with pc:=3 }:GT)).kind=1 from e1),if_neg (by show ¬ (3:Int)=1;decide),if_neg (by show ¬ (3:Int)=2;decide)]
     rfl
   ·rw [if_neg z2] at hst;refine ⟨zys (idL GateS) (t.ser+c).toNat (t.list++[(opG t).a]) fun x=>if x then kE mo i t 0 else znq (idL GateS) (opG t).a (opG t).b (kE mo i t) (F+1),?_,fun m hA ha=>?_⟩
    ·unfold coR;rw [if_pos e1,if_neg z1,if_neg z2]
    ·rw [hst];refine SimR.less (zuo (F:=F+1) hT hlt (hx.ser (by have:=hs.pc1 e1;omega)) hser hA ha ?_);rw [zr6];unfold coR;rw [if_pos (show (opG ({ t with pc:=1 }:GT)).kind=1 from e1),if_pos rfl]
     rfl
 rw [if_neg e1] at hst;by_cases e2:(opG t).kind=2
 ·rw [if_pos e2] at hst;by_cases z1:t.pc=1
  ·rw [if_pos z1] at hst;refine ⟨fun m=>zr3 (idL GateS) (opG t).a (kE mo i t) (zld (idL GateS) (opG t).a (kE mo i t) F) m.st.ser m.st.mem m,?_,fun m hA ha=>?_⟩
   ·unfold coR;rw [if_neg e1,if_pos e2,if_pos z1];rfl
   ·rw [hst];simp only;unfold zr3;rw [hA.mem];by_cases q:(opG t).a∈S.L
    ·rw [if_pos q,if_pos q,zec];refine zd0 (F':=F) (S1:=ldM S i) (m1:=m) (by rw [el];exact hlt) (by rw [el];show (2:Int)≠0;decide) ⟨hA.ser,hA.mem,hA.num⟩ rfl (by rw [el];exact ha) ?_ (yax _);rw [el];unfold coR;rw [if_neg (show ¬ (opG ({ t with pc:=2,list:=S.L,ser:=S.ser }:GT)).kind=1 from e1),if_pos (show (opG ({ t with pc:=2,list:=S.L,ser:=S.ser }:GT)).kind=2 from e2),if_neg (by show ¬ (2:Int)=1;decide)]
     have e9:m.st.ser=(S.ser+c).toNat:=by have:=hA.ser;omega
     rw [e9];rfl
    ·rw [if_neg q,if_neg q];exact zbl (t:=t) (by rw [el]) (by rw [el]) (by rw [el]) ⟨hA.ser,hA.mem,hA.num⟩ rfl ha
  ·rw [if_neg z1] at hst;have hl2:=hs.lst (by omega);refine ⟨zys (idL GateS) (t.ser+c).toNat (t.list.erase (opG t).a) fun x=>if x then kE mo i t 0 else zld (idL GateS) (opG t).a (kE mo i t) (F+1),?_,fun m hA ha=>?_⟩
   ·unfold coR;rw [if_neg e1,if_pos e2,if_neg z1]
   ·rw [hst,zpi hl2.1];refine SimR.less (zuo (F:=F+1) hT hlt (hx.ser (by omega)) hser hA ha ?_);rw [zpa];unfold coR;rw [if_neg (show ¬ (opG ({ t with pc:=1 }:GT)).kind=1 from e1),if_pos (show (opG ({ t with pc:=1 }:GT)).kind=2 from e2),if_pos rfl]
    rfl
 rw [if_neg e2] at hst;by_cases e5:(opG t).kind=5
 ·rw [if_pos e5] at hst;refine ⟨fun m=>zc2 mo i (ze3 t) ⟨true,0,m.st.mem⟩ m,?_,fun m hA ha=>?_⟩
  ·unfold coR;rw [if_neg e1,if_neg e2,if_neg e3,if_neg e4,if_pos e5]
  ·rw [hst];simp only;rw [hA.mem];exact zbl (t:=t) (by rw [el]) (by rw [el]) (by rw [el]) ⟨hA.ser,hA.mem,hA.num⟩ rfl ha
 rw [if_neg e5] at hst;have h67:(opG t).kind=6∨(opG t).kind=7:=by omega
 by_cases z1:t.pc=1
 ·rw [if_pos z1] at hst;refine ⟨fun m=>zex (idL GateS) (zp0 mo i t) m.st.mem (opG t).a (-1) m,?_,fun m hA ha=>?_⟩
  ·unfold coR;rw [if_neg e1,if_neg e2,if_neg e3,if_neg e4,if_neg e5,if_pos z1]
  ·rw [hst];simp only;rw [hA.mem];have hd:=zle (zp0 mo i t) hmem.2 0 (opG t).a (-1) m;rw [yag] at hd;rw [hd];unfold zih;rw [if_pos rfl,el];by_cases q:0 < S.L.length
   ·rw [if_pos q,if_pos q];refine zd0 (F':=F+1) (S1:=ldM S i) (m1:=m) (by rw [el];exact hlt) (by rw [el];show (2:Int)≠0;decide) ⟨hA.ser,hA.mem,hA.num⟩ rfl (by rw [el];exact ha) ?_ (Nat.le_succ _);rw [el];unfold coR;rw [if_neg (show ¬ (opG ({ t with pc:=2,list:=S.L,ser:=S.ser }:GT)).kind=1 from e1),if_neg (show ¬ (opG ({ t with pc:=2,list:=S.L,ser:=S.ser }:GT)).kind=2 from e2),if_neg (show ¬ (opG ({ t with pc:=2,list:=S.L,ser:=S.ser }:GT)).kind=3 from e3),if_neg (show ¬ (opG ({ t with pc:=2,list:=S.L,ser:=S.ser }:GT)).kind=4 from e4),if_neg (show ¬ (opG ({ t with pc:=2,list:=S.L,ser:=S.ser }:GT)).kind=5 from e5),if_neg (by show ¬ (2:Int)=1;decide),if_pos rfl]
    rfl
   ·rw [if_neg q,if_neg q];obtain ⟨X,hX⟩:∃ X:GT,({ t with pc:=2,list:=S.L,ser:=S.ser,place := -1,least:=(opG t).a }:GT)=X:=⟨_,rfl⟩;show SimR _ _ _ _ _ _ (zau (zgs ((ldM S i).setT i ({ t with pc:=2,list:=S.L,ser:=S.ser,place := -1,least:=(opG t).a }:GT)) i (opG t)) i);rw [hX];have e8:((ldM S i).setT i X).T i=X:=GMc.setT_T _ _ _;exact zrq (t:=t) (S1:=(ldM S i).setT i X) h67 (by rw [e8,← hX]) (by rw [e8,← hX]) (by rw [e8,← hX]) hoOk ⟨hA.ser,hA.mem,hA.num⟩ ha (by rw [e8,← hX]) (by rw [e8,← hX]) (fun _=>rfl) (fun _=>rfl)
 rw [if_neg z1] at hst;have hl2:=hs.lst (by omega);have hpl:=hs.pc67 (by omega) (by omega);obtain ⟨j,hj⟩:∃ j,(t.pc - 2).toNat=j:=⟨_,rfl⟩;have hjl:j < t.list.length:=by omega
 obtain ⟨n0,p9,hnp⟩:∃ n0 p9:Int,(t.pc=2∧n0=(opG t).a∧p9 = -1)∨(t.pc≠2∧n0=t.least∧p9=t.place∧0≤t.place):=by
  by_cases z:t.pc=2
  ·exact ⟨_,_,.inl ⟨z,rfl,rfl⟩⟩
  ·exact ⟨_,_,.inr ⟨z,rfl,rfl,hx.place (by omega) (by omega)⟩⟩
 have hq:0≤t.list.getD j 0∧t.list.getD j 0 < 64:=by
  rw [List.getD_eq_getElem?_getD,List.getElem?_eq_getElem hjl];exact hl2.2 _ (List.getElem_mem hjl)
 refine ⟨fun m=>(if p9 < 0∨m.st.num (t.list.getD j 0).toNat < n0 then zex (idL GateS) (zp0 mo i t) (t.list.drop (j+1)) (m.st.num (t.list.getD j 0).toNat) (t.list.getD j 0) else zex (idL GateS) (zp0 mo i t) (t.list.drop (j+1)) n0 p9) m,?_,fun m hA ha=>?_⟩
 ·unfold coR;rw [if_neg e1,if_neg e2,if_neg e3,if_neg e4,if_neg e5,if_neg z1];rcases hnp with ⟨z,rfl,rfl⟩|⟨z,rfl,rfl,_⟩
  ·rw [if_pos z];obtain rfl:j=0:=by omega
   rfl
  ·rw [if_neg z,hj];rfl
 ·rw [hst];simp only;rw [hA.num _ (by omega)];unfold zih;rw [if_neg z1,ep,hj];simp only;generalize t.list.getD j 0=q at *;have hc:(p9 < 0∨S.N q.toNat < n0)↔(t.pc=2∨(pcM S i (t.pc+1)).N q.toNat < t.least):=by
   show _↔(t.pc=2∨S.N q.toNat < t.least);rcases hnp with ⟨z,rfl,rfl⟩|⟨z,rfl,rfl,h0⟩
   ·constructor
    ·intro _;exact .inl z
    ·intro _;exact .inl (by decide)
   ·constructor
    ·intro w;rcases w with w|w
     ·omega
     ·exact .inr w
    ·intro w;rcases w with w|w
     ·exact absurd w z
     ·exact .inr w
  have fin:∀ (n1 q1:Int) (S1:GMc),S1.T i={ t with pc:=t.pc+1,least:=n1,place:=q1 }→Agr c m.st S1→SimR c mo i (F+1) m (zex (idL GateS) (zp0 mo i t) (t.list.drop (j+1)) n1 q1 m) (zau (if t.pc - 1 < t.list.length then S1 else zgs S1 i (opG t)) i):=fun n1 q1 S1 hS1 hag=>by
   rw [zle _ hl2.2];by_cases y:j+1 < t.list.length
   ·rw [if_pos y,if_pos (by omega)];refine zd0 (F':=F+1) (S1:=S1) (m1:=m) (by rw [hS1];exact hlt) (by rw [hS1];show t.pc+1≠0;omega) hag rfl (by rw [hS1];exact ha) ?_ (Nat.le_succ _);rw [hS1];unfold coR;rw [if_neg (show ¬ (opG ({ t with pc:=t.pc+1,least:=n1,place:=q1 }:GT)).kind=1 from e1),if_neg (show ¬ (opG ({ t with pc:=t.pc+1,least:=n1,place:=q1 }:GT)).kind=2 from e2),if_neg (show ¬ (opG ({ t with pc:=t.pc+1,least:=n1,place:=q1 }:GT)).kind=3 from e3),if_neg (show ¬ (opG ({ t with pc:=t.pc+1,least:=n1,place:=q1 }:GT)).kind=4 from e4),if_neg (show ¬ (opG ({ t with pc:=t.pc+1,least:=n1,place:=q1 }:GT)).kind=5 from e5),if_neg (by show ¬ t.pc+1=1;omega),if_neg (by show ¬ t.pc+1=2;omega)]
    show (m,zmo (zp0 mo i t) t.list (j+1) n1 q1)=(m,zmo _ t.list (t.pc+1 - 2).toNat n1 q1);rw [show (t.pc+1 - 2).toNat=j+1 by omega];rfl
   ·rw [if_neg y,if_neg (by omega)];exact zrq (t:=t) h67 (by rw [hS1]) (by rw [hS1]) (by rw [hS1]) hoOk hag ha (by rw [hS1]) (by rw [hS1]) (by rw [hS1];intro z;exact absurd z (by show ¬ t.list.length=0;omega)) (by rw [hS1];intro z;exact absurd z (by show ¬ t.list.length=0;omega))
  by_cases y:p9 < 0∨S.N q.toNat < n0
  ·rw [if_pos y,if_pos (hc.1 y)];have:=fin (S.N q.toNat) q ((pcM S i (t.pc+1)).setT i { ({ t with pc:=t.pc+1 }:GT) with least:=S.N q.toNat,place:=q }) (GMc.setT_T _ _ _) ⟨hA.ser,hA.mem,hA.num⟩;exact this
  ·rw [if_neg y,if_neg (fun z=>y (hc.2 z))];rcases hnp with ⟨z,rfl,rfl⟩|⟨z,rfl,rfl,h0⟩
   ·exact absurd (.inl (by decide)) y
   ·exact fin t.least t.place (pcM S i (t.pc+1)) (ep _) ⟨hA.ser,hA.mem,hA.num⟩
end
section
variable {c mo n i j F:Nat} {S S1:GMc} {t:GT}
theorem zaz {t':GT} (h:j≠i):(S.setT i t').T j=S.T j:=upd_ne _ _ h
theorem zl4 {o:OpD} (h:j≠i):(zgs S i o).T j=S.T j:=by
 unfold zgs;split
 ·exact zaz h
 ·split
  ·exact zaz h
  ·exact zaz h
theorem zmh {o:OpD} {pc:Int} (h:j≠i):(zih S i o pc).T j=S.T j:=by
 unfold zih;split
 ·split
  ·rfl
  ·rw [zl4 h];exact zaz h
 ·simp only;split
  ·split
   ·exact zaz h
   ·rfl
  ·rw [zl4 h];split
   ·exact zaz h
   ·rfl
theorem zpb {l:List Int} (h:j≠i):(zr5 S i l).T j=S.T j:=by
 unfold zr5;split
 ·exact zaz h
 ·exact zaz h
theorem zi2 (h:j≠i):(zb0 S i).T j=S.T j:=by
 have hp:∀ p,(pcM S i p).T j=S.T j:=fun p=>zaz h;have hl:(ldM S i).T j=S.T j:=zaz h;have he:∀ (S1:GMc) r,(zfx S1 i r).T j=S1.T j:=fun S1 r=>zaz h;unfold zb0;split
 ·rw [he,GMc.setN_T,hp]
 ·split
  ·rw [he,hp]
  ·split
   ·split
    ·split
     ·rw [he,hl]
     ·exact hl
    ·split
     ·rw [GMc.setN_T,hp]
     ·rw [zpb h,hp]
   ·split
    ·split
     ·split
      ·exact hl
      ·rw [he,hl]
     ·rw [zpb h,hp]
    ·split
     ·rw [he,hl]
     ·split
      ·rw [zmh h,hl]
      ·rw [zmh h,hp]
theorem XInv.low (h:XInv t) {t':GT} (ho:t'.ops=t.ops) (hp:t'.pc≤1):XInv t':=⟨by rw [ho];exact h.ops,fun z=>by omega,fun _ z=>by omega⟩
theorem XInv.begin (h:XInv t):XInv (zcn t):=by
 unfold zcn;split
 ·exact h.low rfl (by show (0:Int)≤1;decide)
 ·split
  ·exact h.low rfl (by show (0:Int)≤1;decide)
  ·exact h.low rfl (by show (1:Int)≤1;decide)
theorem XInv.settle:∀ (d:Nat) {t:GT},XInv t→XInv (zbe d t)
 | 0,t,h=>h
 | d+1,t,h=>by
  unfold zbe;split
  ·exact XInv.settle d h.begin
  ·exact h
theorem XInv.tell {o:OpD} (h:XInv (S.T i)):XInv ((zgs S i o).T i):=by
 unfold zgs;split
 ·rw [GMc.setT_T];exact h.low rfl (by show (0:Int)≤1;decide)
 ·split
  ·rw [GMc.setT_T];exact h.low rfl (by show (0:Int)≤1;decide)
  ·rw [GMc.setT_T];exact h.low rfl (by show (0:Int)≤1;decide)
theorem XInv.lay {l:List Int} (h:XInv t) (ho:(S.T i).ops=t.ops):XInv ((zr5 S i l).T i):=by
 unfold zr5;split
 ·rw [GMc.setT_T];exact h.low ho (by show (1:Int)≤1;decide)
 ·rw [GMc.setT_T];exact h.low ho (by show (0:Int)≤1;decide)
theorem zud (hs:zcs (S.T i)) (hx:XInv (S.T i)) (h0:0≤S.ser) (hmem:zho S.L):XInv ((zb0 S i).T i):=by
 obtain ⟨t,hT⟩:∃ t,S.T i=t:=⟨_,rfl⟩;have ep:∀ p,(pcM S i p).T i={ t with pc:=p }:=fun p=>by rw [← hT];exact GMc.setT_T _ _ _
 have el:(ldM S i).T i={ t with pc:=2,list:=S.L,ser:=S.ser }:=by rw [← hT];exact GMc.setT_T _ _ _
 have ee:∀ (S1:GMc) r,(zfx S1 i r).T i=zeo (S1.T i) r:=fun S1 r=>GMc.setT_T _ _ _;unfold zb0;rw [hT] at hs hx ⊢;have hpe:∀ (t1:GT) r,t1.ops=t.ops→XInv (zeo t1 r):=fun t1 r h=>hx.low h (by show (0:Int)≤1;decide);have hld:XInv { t with pc:=2,list:=S.L,ser:=S.ser }:=⟨hx.ops,fun _=>h0,fun _ z=>absurd (show (3:Int)≤2 from z) (by decide)⟩
 have p0:=hs.pc0;split
 ·rw [ee,GMc.setN_T,ep];exact hpe _ _ rfl
 ·split
  ·rw [ee,ep];exact hpe _ _ rfl
  ·split
   ·rename_i e1;split
    ·split
     ·rw [ee,el];exact hpe _ _ rfl
     ·rw [el];exact hld
    ·split
     ·rw [GMc.setN_T,ep];exact ⟨hx.ops,fun _=>hx.ser (by omega),fun z=>absurd (show 6≤(opG t).kind from z) (by omega)⟩
     ·exact hx.lay (by rw [ep])
   ·split
    ·split
     ·split
      ·rw [el];exact hld
      ·rw [ee,el];exact hpe _ _ rfl
     ·exact hx.lay (by rw [ep])
    ·split
     ·rw [ee,el];exact hpe _ _ rfl
     ·split
      ·unfold zih;rw [if_pos rfl];split
       ·rw [el];exact hld
       ·refine XInv.tell ?_;rw [GMc.setT_T,el];exact ⟨hx.ops,fun _=>h0,fun _ z=>absurd (show (3:Int)≤2 from z) (by decide)⟩
      ·rename_i z1;have hl2:=hs.lst (by omega);have hk:6≤(opG t).kind:=by have:=hs.kind;omega
       have hpl:=hs.pc67 hk (by omega);have hq:0≤t.list.getD (t.pc - 2).toNat 0:=by
        rw [List.getD_eq_getElem?_getD,List.getElem?_eq_getElem (by omega)];exact (hl2.2 _ (List.getElem_mem (by omega))).1
       unfold zih;rw [if_neg z1];simp only;rw [ep];have A:XInv ((if t.pc=2∨(pcM S i (t.pc+1)).N (t.list.getD (t.pc - 2).toNat 0).toNat < t.least then (pcM S i (t.pc+1)).setT i { ({ t with pc:=t.pc+1 }:GT) with least:=(pcM S i (t.pc+1)).N (t.list.getD (t.pc - 2).toNat 0).toNat,place:=t.list.getD (t.pc - 2).toNat 0 } else pcM S i (t.pc+1)).T i):=by
        split
        ·rw [GMc.setT_T];exact ⟨hx.ops,fun _=>hx.ser (by omega),fun _ _=>hq⟩
        ·rename_i y;rw [ep];exact ⟨hx.ops,fun _=>hx.ser (by omega),fun _ _=>hx.place hk (by omega)⟩
       split
       ·exact A
       ·exact XInv.tell A
theorem zna (hN:NumOk S) (hx:XInv (S.T i)) (hs:zcs (S.T i)):NumOk (zb0 S i):=by
 have hoOk:(opG (S.T i)).Ok:=hx.ops _ (by
  unfold opG;rw [List.getD_eq_getElem?_getD,List.getElem?_eq_getElem hs.at_];exact List.getElem_mem hs.at_)
 have hset:∀ a,NumOk (S.setN a (opG (S.T i)).b):=fun a j hj=>by
  show zb7 (upd S.N a (opG (S.T i)).b j);by_cases e:j=a
  ·subst e;rw [upd_same];exact hoOk.b
  ·rw [upd_ne _ _ e];exact hN j hj
 have ht:∀ (S1:GMc) o,(zgs S1 i o).N=S1.N:=fun S1 o=>by
  unfold zgs;split
  ·rfl
  ·split<;>rfl
 have hl:∀ (S1:GMc) o pc,(zih S1 i o pc).N=S1.N:=fun S1 o pc=>by
  unfold zih;split
  ·split
   ·rfl
   ·rw [ht];rfl
  ·simp only;split
   ·split<;>rfl
   ·rw [ht];split<;>rfl
 have hy:∀ (S1:GMc) l,(zr5 S1 i l).N=S1.N:=fun S1 l=>by
  unfold zr5;split<;>rfl
 unfold zb0;split
 ·exact hset _
 ·split
  ·exact hN
  ·split
   ·split
    ·split<;>exact hN
    ·split
     ·exact hset _
     ·intro j hj;rw [hy];exact hN j hj
   ·split
    ·split
     ·split<;>exact hN
     ·intro j hj;rw [hy];exact hN j hj
    ·split
     ·exact hN
     ·split
      ·intro j hj;rw [hl];exact hN j hj
      ·intro j hj;rw [hl];exact hN j hj
end
end Go.Proofs.Ytofacoojpgkbiaa
