/- Part of a proof. No condition. -/
import Derived.Test.YtofacoojpgkbiaaCCalP21
import Derived.Test.YtofacoojpgkbiaaCCalP20
set_option linter.unusedVariables false
set_option maxHeartbeats 8000000
set_option linter.unusedSimpArgs false
namespace Go.Proofs.Ytofacoojpgkbiaa
open Go.Conc Go.RowKit
open Go.ConcN (upd upd_ne upd_same)
set_option maxRecDepth 100000
structure zq1{S:Type}(R:S→(Nat→Owner)→World→Prop)(B:Nat→Prop):Prop where
 ok:zg0 R
 sh:∀{s own w},R s own w→∀b,B b→own b = .sh∧b<w.heap.size
 keep:∀{s own own' w w'},R s own w→(∀b,B b→own' b = .sh∧w'.heap[b]?=w.heap[b]?)→(∀b v,0<v→own b = .tag v→own' b = .tag v∧w'.heap[b]?=w.heap[b]?)→(∀b v,own' b = .tag v→own b = .tag v∨v≤1)→R s own' w'
structure FW{S:Type}(R:S→(Nat→Owner)→World→Prop)(B:Nat→Prop)(s:S)(own:Nat→Owner)(w:World):Prop where
 rep:R s own w
 new:∀b,w.heap.size≤b→own b = .out
 pub:∀b,own b ≠ .out→B b∨∃t,0<t∧own b = .tag t
def Tags(own own':Nat→Owner)(w w':World):Prop:=∀b t,0<t→own b = .tag t→own' b = .tag t∧w'.heap[b]?=w.heap[b]?
theorem Tags.refl{own:Nat→Owner}{w:World}:Tags own own w w:=fun _ _ _ h=>⟨h,rfl⟩
theorem Tags.trans{o1 o2 o3:Nat→Owner}{w1 w2 w3:World}(h:Tags o1 o2 w1 w2)(k:Tags o2 o3 w2 w3):Tags o1 o3 w1 w3:=fun b t h0 hb=>⟨(k b t h0 (h b t h0 hb).1).1,(k b t h0 (h b t h0 hb).1).2.trans (h b t h0 hb).2⟩
section
variable{S:Type}{R:S→(Nat→Owner)→World→Prop}{B:Nat→Prop}
theorem FW.keep(F:zq1 R B){s:S}{own:Nat→Owner}{w w':World}(h:FW R B s own w)(hs:w.heap.size≤w'.heap.size)(hk:∀b,b<w.heap.size→own b ≠ .out→w'.heap[b]?=w.heap[b]?):FW R B s own w':=by
 have lt:∀{b},own b ≠ .out→b<w.heap.size:=fun{b} hb=>by
  rcases Nat.lt_or_ge b w.heap.size with z|z
  ·exact z
  ·exact absurd (h.new b z) hb
 exact⟨F.ok.keep h.rep (fun b c t f hb _ _ _=>⟨hb,hk b (lt (by rw[hb];simp)) (by rw[hb];simp)⟩) (fun b v _ hb=>⟨hb,hk b (lt (by rw[hb];simp)) (by rw[hb];simp)⟩) (fun b v hb => .inl hb),fun b hb=>h.new b (by omega),h.pub⟩
open Classical in
noncomputable def zfa(B:Nat→Prop)(own:Nat→Owner):Nat→Owner:=fun b=>if B b then .sh else if ∃t,0<t∧own b = .tag t then own b else .out
def zo6(R:S→(Nat→Owner)→World→Prop)(m:SM S)(own:Nat→Owner)(w:World):Prop:=R m.st own w
theorem z7q(F:zg0 R):zc6 (zo6 R):=fun m own own' w w' h hk=>F.keep h (fun b _ _ _ hb _ _ _=>hk.sh hb) (fun b v _ hb=>hk.tag hb) (fun b v hb => .inl (hk.2 b v hb))
variable{Z:Machine→Trace→Prop}{Q:Nat→SM S→Prop}{o:Os×Array (Nat×ByteArray)}{s s':S}{own:Nat→Owner}{w:World}{c:Frame}{cs:List Frame}
theorem FW.ctx(F:zg0 R)(h:FW R B s own w):(zo4 (zo6 R) 0 Z Q o).C (0:Nat) (zfb own w.heap.size) (fun _=>False) ⟨w.heap,⟨s,fun _=>[]⟩,zfb own w.heap.size⟩ w ⟨s,fun _=>[]⟩:=by
 refine⟨trivial,?_,fun b hb=>?_,fun b hb=>hb.elim,rfl,.refl⟩
 ·refine F.keep h.rep (fun b c t f hb _ _ _=>⟨?_,rfl⟩) (fun b v _ hb=>⟨?_,rfl⟩) fun b v hb=>?_
  ·unfold zfb;rw[hb];simp
  ·unfold zfb;rw[hb];simp
  ·unfold zfb at hb;split at hb
   ·cases hb;exact .inr (by omega)
   ·exact .inl hb
 ·unfold zfb;rw[if_neg (by omega)];exact h.new b hb
theorem FW.after(F:zq1 R B){A₁:Nat→Prop}{w₁:W0 (SM S)}(h:FW R B s own w){y:Nat}{own4:Nat→Owner}{w4:World}{m4:SM S}(C:(zo4 (zo6 R) 0 Z Q o).C y own4 A₁ w₁ w4 m4)(L:Less 0 (fun _=>False) ⟨w.heap,⟨s,fun _=>[]⟩,zfb own w.heap.size⟩ A₁ w₁)(hm:m4=⟨s',fun _=>[]⟩)(hk:w4.os=w.os∧w4.output=w.output) :
  FW R B s' (zfa B own4) w4∧Left own (zfa B own4) w w4∧Tags own (zfa B own4) w w4:=by
 have tg:∀b,b<w.heap.size→own b = .out→own4 b = .tag 0∧w4.heap[b]?=w.heap[b]?:=fun b hb ho=>by
  have h1:zfb own w.heap.size b = .tag 0:=if_pos ⟨ho,hb⟩;obtain⟨q1,q2⟩:=L.tag b 0 h1;obtain⟨q3,q4⟩:=C.tg b 0 q1;exact⟨q3,q4.trans q2⟩
 have hrep:R m4.st own4 w4:=C.rep;rw[hm] at hrep;have hsh:=F.sh hrep;have hs4:w.heap.size≤w4.heap.size:=by
  rcases Nat.lt_or_ge w4.heap.size w.heap.size with z|z
  ·by_cases ho:own w4.heap.size = .out
   ·have h1:=(tg _ z ho).1;rw[C.fresh _ (yax _)] at h1;cases h1
   ·rcases h.pub _ ho with h1|⟨v,_,h1⟩
    ·have:=(hsh _ h1).2;omega
    ·have h3:zfb own w.heap.size w4.heap.size = .tag v:=(if_neg fun q=>ho q.1).trans h1;obtain⟨q1,_⟩:=L.tag _ v h3;have h4:=(C.tg _ v q1).1;rw[C.fresh _ (yax _)] at h4;cases h4
  ·exact z
 have hout:∀b,¬B b→(¬∃t,0<t∧own4 b = .tag t)→zfa B own4 b = .out:=fun b h1 h2=>by
  unfold zfa;rw[if_neg h1,if_neg h2]
 refine⟨⟨F.keep hrep (fun b hb=>⟨by unfold zfa;rw[if_pos hb],rfl⟩) (fun b v hv hb=>⟨?_,rfl⟩) fun b v hb=>?_,fun b hb=>hout b (fun z=>?_) ?_,fun b hb=>?_⟩,⟨fun b hb ho=>⟨hout b ?_ ?_,(tg b hb ho).2⟩,hs4,hk⟩,fun b t h0 hb=>?_⟩
 ·have hne:¬B b:=fun z=>by rw[(hsh b z).1] at hb;cases hb
  unfold zfa;rw[if_neg hne,if_pos ⟨v,hv,hb⟩];exact hb
 ·unfold zfa at hb;split at hb
  ·cases hb
  ·split at hb
   ·exact .inl hb
   ·cases hb
 ·have:=(hsh b z).2;omega
 ·rintro⟨t,_,z⟩;rw[C.fresh b hb] at z;cases z
 ·unfold zfa at hb⊢;split
  ·rename_i z;exact .inl z
  ·rename_i z;rw[if_neg z] at hb;split at hb
   ·rename_i q;obtain⟨t,h1,h2⟩:=q;rw[if_pos ⟨t,h1,h2⟩];exact .inr ⟨t,h1,h2⟩
   ·exact absurd rfl hb
 ·intro z;have h1:=(tg b hb ho).1;rw[(hsh b z).1] at h1;cases h1
 ·rintro⟨t,h0,z⟩;rw[(tg b hb ho).1] at z;cases z;omega
 ·have h3:zfb own w.heap.size b = .tag t:=(if_neg fun q=>by rw[hb] at q;cases q.1).trans hb;obtain⟨q1,q2⟩:=L.tag b t h3;obtain⟨q3,q4⟩:=C.tg b t q1;have hne:¬B b:=fun z=>by rw[(hsh b z).1] at q3;cases q3
  refine⟨?_,q4.trans q2⟩;unfold zfa;rw[if_neg hne,if_pos ⟨t,h0,q3⟩];exact q3
theorem zqb(F:zg0 R):(zo4 (zo6 R) 0 Z Q o).Ok:=z2v (z7q F)
open Classical in
theorem zoc(F:zq1 R B){ρ:Type}{r0:ρ}{V:ρ→Value}{Φ:(ρ→Fu (SM S))→Fu (SM S)}{g:Goroutine}(G0:FW R B s own w)
  (hF:∀{Q:Nat→SM S→Prop} {o:Os×Array (Nat×ByteArray)} {w₀:W0 (SM S)} {κ:ρ→Fu (SM S)},(w₀=⟨w.heap,⟨s,fun _=>[]⟩,zfb own w.heap.size⟩)→(∀r,(zo4 (zo6 R) 0 Z Q o).F (κ r) (fun _=>False) w₀ (G (c.finish (V r)) cs))→(zo4 (zo6 R) 0 Z Q o).F (Φ κ) (fun _=>False) w₀ g)
  (hrun:∀{Q:Nat→SM S→Prop} {κ:ρ→Fu (SM S)},(∀x,x≤1000→FF Q (κ r0) x ⟨s',fun _=>[]⟩)→FF Q (Φ κ) 0 ⟨s,fun _=>[]⟩)
  (h:∀own' w',FW R B s' own' w'→Left own own' w w'→Tags own own' w w'→RM Try.prog Z (G (c.finish (V r0)) cs) w'):RM Try.prog Z g w:=by
 have:=hF (Q:=fun _ m=>m=⟨s',fun _=>[]⟩) (o:=(w.os,w.output)) (w₀:=⟨w.heap,⟨s,fun _=>[]⟩,zfb own w.heap.size⟩) (κ:=fun r=>if r=r0 then zqm else zi6) rfl (fun r y own4 w4 m4 C4 hk hQ=>?_) _ _ _ _ (G0.ctx F.ok) ⟨rfl,rfl⟩ (hrun fun x _=>by rw[if_pos rfl];rfl)
 ·exact this
 ·by_cases hr:r=r0
  ·subst hr;rw[if_pos rfl] at hQ;obtain⟨G1,L1,T1⟩:=G0.after F C4 .refl (show m4=_ from hQ) hk
   exact h _ _ G1 L1 T1
  ·rw[if_neg hr] at hQ;exact hQ.elim
end
structure FL{S:Type}(R:S→(Nat→Owner)→World→Prop)(B:Nat→Prop)(w:World)(s:S)(own:Nat→Owner)(w1:World):Prop where
 g:FW R B s own w1
 l:LeftW w w1
 o:∀b,b<w.heap.size→own b = .out
section
variable{S:Type}{R:S→(Nat→Owner)→World→Prop}{B:Nat→Prop}{w w1 w2:World}{s s':S}{own own':Nat→Owner}
theorem FL.step(h:FL R B w s own w1)(g:FW R B s' own' w2)(l:Left own own' w1 w2):FL R B w s' own' w2 :=
 ⟨g,⟨fun b hb=>(l.same b (by have:=h.l.size;omega) (h.o b hb)).2.trans (h.l.same b hb),Nat.le_trans h.l.size l.size,l.outs.1.trans h.l.outs.1,l.outs.2.trans h.l.outs.2⟩,fun b hb=>(l.same b (by have:=h.l.size;omega) (h.o b hb)).1⟩
theorem FL.sim(F:zq1 R B)(h:FL R B w s own w1)(e:w2.heap=w1.heap)(ho:w2.os=w1.os∧w2.output=w1.output):FL R B w s own w2 :=
 ⟨h.g.keep F (by rw[e];exact yax _) (fun b _ _=>by rw[e]),h.l.trans (.of_sim e ho),h.o⟩
theorem FL.beside(F:zq1 R B)(h:FL R B w s own w1)(hs:w1.heap.size≤w2.heap.size)(hk:∀b,b<w1.heap.size→w2.heap[b]?=w1.heap[b]?)(ho:w2.os=w1.os∧w2.output=w1.output):FL R B w s own w2 :=
 ⟨h.g.keep F hs (fun b hb _=>hk b hb),h.l.trans ⟨hk,hs,ho⟩,h.o⟩
end
section
variable{Z:Machine→Trace→Prop}{c:Frame}{cs:List Frame}{b:Nat}{v x y:Int}{own:Nat→Owner}{w:World}
theorem famWord:zq1 (fun v=>WAt b v) (·=b):=⟨⟨fun{s own own' w w'} h hs _ _=>h.keep (hs _ _ _ _ h.sh h.at_ (by decide) (by decide))⟩,fun{s own w} h a (ha:a=b)=>by subst ha;exact⟨h.sh,(yah.1 h.at_).1⟩,fun h hk _ _=>h.keep (hk b rfl)⟩
theorem zs4{Q:Nat→SM Int→Prop}{o:Os×Array (Nat×ByteArray)}:Part (zo4 (zo6 (fun v=>WAt b v)) 0 Z Q o) (idL Int) (WAt b) b (fun _=>False):=⟨fun h=>h,fun _ _ h=>h⟩
theorem zpe(G0:FW (fun v=>WAt b v) (·=b) v own w)(h:∀own' w',FW (fun v=>WAt b v) (·=b) (zbk v x) own' w'→Left own own' w w'→RM Try.prog Z (G (c.finish (.int .i64 (zbk v x))) cs) w') :
  RM Try.prog Z (G (Frame.enter Try.prog 47 #[gpv b,.nilIface,.int .i64 x] .normal) (c::cs)) w :=
 zoc famWord (ρ:=Int) (r0:=zbk v x) (V:=fun e => .int .i64 e) (Φ:=zmf (idL Int) x) (s':=zbk v x) G0 (fun{Q o w₀ κ} _ hκ=>znq (md:=zo4 (zo6 (fun v=>WAt b v)) 0 Z Q o) (zqb famWord.ok) zs4 trivial fun r _=>hκ r) (fun{Q κ} hr=>zol (by omega) (hr 1 (by omega))) fun own' w' a b _=>h own' w' a b
theorem zj6(hy:zcm y)(G0:FW (fun v=>WAt b v) (·=b) v own w)(h:∀own' w',FW (fun v=>WAt b v) (·=b) (if v=x then y else v) own' w'→Left own own' w w'→RM Try.prog Z (G (c.finish (.bool (decide (v=x)))) cs) w') :
  RM Try.prog Z (G (Frame.enter Try.prog 49 #[gpv b,.nilIface,.int .i64 x,.int .i64 y] .normal) (c::cs)) w:=by
 refine zoc famWord (ρ:=Bool) (r0:=decide (v=x)) (V:=fun e => .bool e) (Φ:=zhi (idL Int) x y) (s':=if v=x then y else v) G0 (fun{Q o w₀ κ} _ hκ=>zg3 (md:=zo4 (zo6 (fun v=>WAt b v)) 0 Z Q o) (zqb famWord.ok) zs4 hy trivial fun r=>hκ r) (fun{Q κ} hr=>zol (by omega) ?_) fun own' w' a b _=>h own' w' a b;show FF Q (zf6 (idL Int) x y κ) 1 ⟨v,fun _=>[]⟩;unfold FF zf6;by_cases e:v=x
 ·rw[if_pos (show(idL Int).get (SM.mk v fun _=>[]).st=x from e)]
  have:=hr 1 (by omega);rw[decide_eq_true e,if_pos e] at this;exact this
 ·rw[if_neg (show ¬(idL Int).get (SM.mk v fun _=>[]).st=x from e)]
  have:=hr 1 (by omega);rw[decide_eq_false e,if_neg e] at this;exact this
end
end Go.Proofs.Ytofacoojpgkbiaa
namespace Go.Proofs.Ytofacoojpgkbiaa.Cl
open Go.Conc Go.RowKit
open Go.ConcN (upd upd_ne upd_same)
set_option maxRecDepth 100000
section
variable{mo n i j F:Nat}{S S1:GMc}{t:GT}{o:OpD}
theorem zci{t':GT}(h:j≠i):(S.setT i t').T j=S.T j:=upd_ne _ _ h
theorem z0v:(zdb S o).1.T=S.T:=by
 unfold zdb
 repeat' split
 all_goals rfl
theorem z1b:(zec S o).1.T=S.T:=by
 unfold zec
 repeat' split
 all_goals rfl
theorem zdt{r:Ans}(h:j≠i):(zhm S i r).T j=S.T j:=zci h
theorem zug(h:j≠i):(zc8 S i).T j=S.T j:=by
 unfold zc8;split
 ·rw[zdt h,z0v]
 ·split
  ·split
   ·split
    ·exact zci h
    ·rw[zdt h];exact zci h
   ·split
    ·rw[zdt h];exact zci h
    ·exact zci h
  ·split
   ·rw[zdt h,z1b]
   ·split
    ·exact zdt h
    ·split
     ·rw[zdt h];rfl
     ·split
      ·rw[zdt h];rfl
      ·split
       ·exact zci h
       ·split
        ·rw[zdt h];rfl
        ·exact zdt h
theorem XInv.low(h:XInv t){t':GT}(ho:t'.ops=t.ops)(hp:t'.pc≤1):XInv t':=⟨by rw[ho];exact h.ops,fun _ z=>by omega,fun _ _ z=>by omega⟩
theorem XInv.begin{k:Nat}(h:XInv t):XInv (zki k t):=by
 unfold zki;split
 ·exact h.low rfl (by show(0:Int)≤1;decide)
 ·exact h.low rfl (by show(1:Int)≤1;decide)
theorem XInv.settle{k:Nat}:∀(d:Nat) {t:GT},XInv t→XInv (zda k d t)
 | 0,t,h=>h
 | d+1,t,h=>by
  unfold zda;split
  ·exact XInv.settle d h.begin
  ·exact h
theorem z4n(hs:zgz S.k (S.T i))(hx:XInv (S.T i))(hN:NumOk S):XInv ((zc8 S i).T i):=by
 have ee:∀(S1:GMc) r,S1.T i=S.T i→XInv ((zhm S1 i r).T i):=fun S1 r h=>by
  unfold zhm;rw[GMc.setT_T];exact hx.low (by show(S1.T i).ops=_;rw[h]) (by show(0:Int)≤1;decide)
 have hj:(opG (S.T i)).a.toNat<S.k:=by have:=hs.a;omega
 have hoOk:(opG (S.T i)).Ok:=hx.ops _ (by
  unfold opG;rw[List.getD_eq_getElem?_getD,List.getElem?_eq_getElem hs.at_];exact List.getElem_mem hs.at_)
 unfold zc8;split
 ·exact ee _ _ (by rw[z0v])
 ·split
  ·split
   ·split
    ·rename_i q;rw[GMc.setT_T];refine⟨hx.ops,fun z=>absurd (show(opG (S.T i)).kind=15 from z) (by omega),fun _ _ _=>z2w hoOk q⟩
    ·unfold zhm;rw[GMc.setT_T,GMc.setT_T];exact hx.low rfl (by show(0:Int)≤1;decide)
   ·split
    ·unfold zhm;rw[GMc.setT_T,GMc.setW_T,GMc.setT_T];exact hx.low rfl (by show(0:Int)≤1;decide)
    ·rw[GMc.setT_T];exact hx.low rfl (by show(1:Int)≤1;decide)
  ·split
   ·exact ee _ _ (by rw[z1b])
   ·split
    ·exact ee _ _ rfl
    ·split
     ·exact ee _ _ rfl
     ·split
      ·exact ee _ _ rfl
      ·split
       ·rw[GMc.setT_T];exact⟨hx.ops,fun _ _=>hN.S _ hj,fun z1 z2=>absurd (show 6≤(opG (S.T i)).kind∧(opG (S.T i)).kind≤8 from⟨z1,z2⟩) (by omega)⟩
       ·split
        ·exact ee _ _ rfl
        ·exact ee _ _ rfl
theorem NumOk.setT{t':GT}(h:NumOk S):NumOk (S.setT i t'):=⟨h.W,h.B,h.S⟩
theorem NumOk.end{r:Ans}(h:NumOk S):NumOk (zhm S i r):=h.setT
theorem NumOk.setW(h:NumOk S){c:Nat}{v:Int}(hv:zcm v):NumOk (S.setW c v):=⟨fun j hj=>by
 show zcm (upd S.W c v j);by_cases e:j=c
 ·subst e;rw[upd_same];exact hv
 ·rw[upd_ne _ _ e];exact h.W j hj,h.B,h.S⟩
theorem NumOk.setF(h:NumOk S){c:Nat}{v:Bool}:NumOk (S.setF c v):=⟨h.W,h.B,h.S⟩
theorem NumOk.lay(h:NumOk S)(h0:0≤S.N){c:Nat}{v:Int}(hv:zcm v):NumOk (S.lay c v):=⟨h.W,fun j hj=>by
 show zcm (upd S.B c v j);by_cases e:j=c
 ·subst e;rw[upd_same];exact hv
 ·rw[upd_ne _ _ e];exact h.B j hj,fun j hj=>by
 show 0≤upd S.Ser c (S.N+1) j;by_cases e:j=c
 ·subst e;rw[upd_same];omega
 ·rw[upd_ne _ _ e];exact h.S j hj⟩
theorem zyy(hN:NumOk S)(h0:0≤S.N)(hx:XInv (S.T i))(hs:zgz S.k (S.T i)):NumOk (zc8 S i):=by
 have hoOk:(opG (S.T i)).Ok:=hx.ops _ (by
  unfold opG;rw[List.getD_eq_getElem?_getD,List.getElem?_eq_getElem hs.at_];exact List.getElem_mem hs.at_)
 have hpc:=hs.pc;unfold zc8;split
 ·refine NumOk.end ?_;unfold zdb;split
  ·exact hN
  ·split
   ·exact hN.setW hoOk.b
   ·split
    ·exact hN.setW (zhx _ _)
    ·split
     ·exact hN.setW hoOk.b
     ·split
      ·exact hN.setW hoOk.c
      ·exact hN
 ·split
  ·split
   ·split
    ·exact hN.setT
    ·exact hN.setT.end
   ·split
    ·exact(hN.setT.setW (hx.try_ (by omega) (by omega) (by omega))).end
    ·exact hN.setT
  ·split
   ·refine NumOk.end ?_;unfold zec;split
    ·exact hN.setF
    ·split
     ·exact hN.setF
     ·exact hN
   ·split
    ·exact hN.end
    ·split
     ·exact(hN.lay h0 hoOk.b).end
     ·split
      ·exact(hN.lay h0 hoOk.b).end
      ·split
       ·exact hN.setT
       ·split
        ·exact(hN.lay h0 (zhx _ _)).end
        ·exact hN.end
end
structure GRel(n mo:Nat)(s:GSt (SM za7))(r:zkm):Prop where
 agr:Agr s.m.st r.S
 an:∀i,i<n→s.m.an i=(r.S.T i).ans
 co:∀i,i<n→∃F,mo≤r.ord.length+F∧s.co i=coG r.S.k mo i F (r.S.T i)
 ord:s.ord=r.ord
 inv:RInv n mo r
 x:∀i,i<n→XInv (r.S.T i)
 num:NumOk r.S
 done:∀i,i<n→(r.S.T i).pc≠0∨(r.S.T i).ops.length≤(r.S.T i).at_
section
variable{n mo:Nat}{s:GSt (SM za7)}{r:zkm}
theorem zg8(S:GMc)(i:Nat):zbm S i=S.setT i (zda S.k ((S.T i).ops.length+1 - (S.T i).at_) (S.T i)):=zfj i _ S
theorem GRel.fin(h:GRel n mo s r){i:Nat}(hi:i<n)(hp:(r.S.T i).pc=0):s.co i = .fin:=by
 obtain⟨F,_,e⟩:=h.co i hi;rw[e];unfold coG;rw[if_pos ((h.done i hi).resolve_left (fun z=>z hp))]
theorem z0a{k i:Nat}{o:OpD}{κ:Ans→Fu (SM za7)}{m:SM za7}(h1:1≤o.kind)(h2:o.kind≤15)(h3:0≤o.a)(h4:o.a<k):((doC k mo o κ) m).2.isFin=false:=by
 unfold doC;rw[if_neg (show ¬(o.a<0∨(k:Int)≤o.a) by omega)];by_cases b1:o.kind=1
 ·rw[if_pos b1];rfl
 rw[if_neg b1];by_cases b2:o.kind=2
 ·rw[if_pos b2];rfl
 rw[if_neg b2];by_cases b3:o.kind=3
 ·rw[if_pos b3];rfl
 rw[if_neg b3];by_cases b4:o.kind=4
 ·rw[if_pos b4];rfl
 rw[if_neg b4];by_cases b5:o.kind=5
 ·rw[if_pos b5];rfl
 rw[if_neg b5];by_cases b6:o.kind=6
 ·rw[if_pos b6];cases mo<;>rfl
 rw[if_neg b6];by_cases b7:o.kind=7
 ·rw[if_pos b7];cases mo<;>rfl
 rw[if_neg b7];by_cases b8:o.kind=8
 ·rw[if_pos b8];cases mo<;>rfl
 rw[if_neg b8];by_cases b9:o.kind=9
 ·rw[if_pos b9];rfl
 rw[if_neg b9];by_cases b10:o.kind=10
 ·rw[if_pos b10];rfl
 rw[if_neg b10];by_cases b11:o.kind=11
 ·rw[if_pos b11];rfl
 rw[if_neg b11];by_cases b12:o.kind=12
 ·rw[if_pos b12];rfl
 rw[if_neg b12];by_cases b13:o.kind=13
 ·rw[if_pos b13];rfl
 rw[if_neg b13];by_cases b14:o.kind=14
 ·rw[if_pos b14];rfl
 rw[if_neg b14];by_cases b15:o.kind=15
 ·rw[if_pos b15];rfl
 rw[if_neg b15];omega
theorem z0i{k i F:Nat}{t:GT}(hs:zgz k t):(coR k mo i F t).isFin=false:=by
 obtain⟨h1,h2⟩:=hs.kind;obtain⟨h3,h4⟩:=hs.a;unfold coR;split
 ·split
  ·cases F<;>rfl
  ·rfl
 ·split
  ·split<;>rfl
  ·exact z0a (i:=i) h1 h2 h3 h4
theorem GRel.isFin(h:GRel n mo s r){i:Nat}(hi:i<n):(s.co i).isFin = !decide (0<(r.S.T i).pc):=by
 rcases(h.inv.inv.th i hi).pc with hp|hp
 ·rw[h.fin hi hp,hp];rfl
 ·obtain⟨F,_,e⟩:=h.co i hi;rw[e];unfold coG;have:=hp.at_;have:=hp.pc;rw[if_neg (by omega),z0i hp,decide_eq_true (by omega)];rfl
theorem GRel.turn(h:GRel n mo s r){i:Nat}(hi:i<n)(hp:0<(r.S.T i).pc)(hm:r.ord.length<mo):∃ψ,s.co i=coF ψ∧GRel n mo ⟨(ψ s.m).1,upd s.co i (ψ s.m).2,s.ord++[(i:Int)]⟩ (zvi r i):=by
 have hs:zgz r.S.k (r.S.T i):=(h.inv.inv.th i hi).pc.resolve_left (by omega);obtain⟨F,hF,e⟩:=h.co i hi;obtain⟨F',rfl⟩:∃F',F=F'+1:=⟨F - 1,by omega⟩;obtain⟨ψ,e1,q⟩:=zzd (mo:=mo) (F:=F') (h.inv.inv.th i hi) hs (h.x i hi) h.num;refine⟨ψ,e.trans e1,?_⟩;obtain⟨s',F2,e2,hag,hF2⟩:=q s.m h.agr (h.an i hi);rw[e2];have hx1:=z4n hs (h.x i hi) h.num;have hn1:=zyy h.num h.inv.inv.n0 (h.x i hi) hs;have hk:(zbm (zc8 r.S i) i).k=r.S.k:=settle_k.trans step_n.2;have hT:∀j,j≠i→(zbm (zc8 r.S i) i).T j=r.S.T j:=fun j hj=>by
  rw[zg8,zci hj,zug hj]
 refine⟨hag,fun j hj=>?_,fun j hj=>?_,?_,h.inv.turn hi hp hm,fun j hj=>?_,?_,fun j hj=>?_⟩
 ·show upd s.m.an i _ j=_;by_cases z:j=i
  ·subst z;rw[upd_same];rfl
  ·rw[upd_ne _ _ z];show s.m.an j=((zbm (zc8 r.S i) i).T j).ans;rw[hT j z];exact h.an j hj
 ·show ∃F,mo≤(r.ord++[(i:Int)]).length+F∧upd s.co i _ j=coG (zbm (zc8 r.S i) i).k mo j F ((zbm (zc8 r.S i) i).T j);rw[List.length_append];by_cases z:j=i
  ·subst z;exact⟨F2,by simp;omega,by rw[upd_same]⟩
  ·obtain⟨F3,q1,q2⟩:=h.co j hj;exact⟨F3,by simp;omega,by rw[upd_ne _ _ z,hT j z,hk];exact q2⟩
 ·show s.ord++[(i:Int)]=r.ord++[(i:Int)];rw[h.ord]
 ·show XInv ((zbm (zc8 r.S i) i).T j);by_cases z:j=i
  ·subst z;rw[zg8,GMc.setT_T];exact hx1.settle _
  ·rw[hT j z];exact h.x j hj
 ·show NumOk (zbm (zc8 r.S i) i);rw[zg8];exact hn1.setT
 ·show((zbm (zc8 r.S i) i).T j).pc≠0∨_;by_cases z:j=i
  ·subst z;exact zh0 _ (.inl (by omega))
  ·show((zbm (zc8 r.S i) i).T j).pc≠0∨((zbm (zc8 r.S i) i).T j).ops.length≤((zbm (zc8 r.S i) i).T j).at_;rw[hT j z];exact h.done j hj
theorem GRel.step(h:GRel n mo s r)(i:Int):GRel n mo (zct n mo s i) (zc7 n mo r i):=by
 unfold zct zc7;have ho:=h.inv.ord;rw[h.ord];by_cases q:0≤i∧i<n∧r.ord.length≠mo
 ·rw[if_pos q];obtain⟨q0,q1,q2⟩:=q;by_cases hp:0<(r.S.T i.toNat).pc
  ·rw[if_pos ⟨q0,q1,hp,by omega⟩];obtain⟨ψ,e,h2⟩:=h.turn (i:=i.toNat) (by omega) hp (by omega);rw[e];have e3:((i.toNat:Nat):Int)=i:=by omega
   rw[e3,h.ord] at h2;exact h2
  ·rw[if_neg (fun z=>hp z.2.2.1)];have:(r.S.T i.toNat).pc=0:=by
    rcases(h.inv.inv.th i.toNat (by omega)).pc with z|z
    ·exact z
    ·have:=z.pc;omega
   rw[h.fin (by omega) this];exact h
 ·rw[if_neg q,if_neg (fun z=>q ⟨z.1,z.2.1,by omega⟩)];exact h
theorem GRel.fold:∀(l:List Int) {s:GSt (SM za7)} {r:zkm},GRel n mo s r→GRel n mo (zi4 n mo s l) (zdh n mo r l)
 | [],s,r,h=>h
 | i::l,s,r,h=>GRel.fold l (h.step i)
theorem zqf{M:Type}{co:Nat→Co M}:∀k,(∀j,j<k→(co j).isFin=true)→zbi co k=0
 | 0,_=>rfl
 | k+1,h=>by unfold zbi;rw[zqf k fun j hj=>h j (by omega),h k (by omega)];rfl
theorem GRel.left(h:GRel n mo s r):decide (0<zbi s.co n)=ze0 r.S n:=by
 by_cases q:ze0 r.S n=true
 ·rw[q];obtain⟨i,hi,hp⟩:=List.any_eq_true.1 q;have hi':=List.mem_range.1 hi;rw[decide_eq_true];rcases Nat.eq_zero_or_pos (zbi s.co n) with z|z
  ·have:=zm5 n z i hi';rw[h.isFin hi',hp] at this;cases this
  ·exact z
 ·have q':ze0 r.S n=false:=by simpa using q
  rw[q',zqf n fun j hj=>?_]
  ·rfl
  ·rw[h.isFin hj];by_cases z:0<(r.S.T j).pc
   ·exact absurd (zm7 hj z) q
   ·rw[decide_eq_false z];rfl
theorem GRel.rounds:∀(f:Nat) {s:GSt (SM za7)} {r:zkm},GRel n mo s r→GRel n mo (zc2 n mo f s) (zef n mo f r)
 | 0,s,r,h=>h
 | f+1,s,r,h=>by
  unfold zc2 zef;have e:(0<zbi s.co n∧s.ord.length<mo)↔(ze0 r.S n=true∧r.ord.length<mo):=by
   rw[←h.left,h.ord,decide_eq_true_eq]
  by_cases q:ze0 r.S n=true∧r.ord.length<mo
  ·rw[if_pos q,if_pos (e.2 q)];exact GRel.rounds f (h.fold _)
  ·rw[if_neg q,if_neg (fun z=>q (e.1 z))];exact h
theorem GRel.start{S0:GMc}{m0:SM za7}{L:Nat→List OpD}(hag:Agr m0.st S0)(han:∀j,m0.an j=[])(hser:S0.N=0)(hnum:NumOk S0)(hL:∀i,(L i).length≤65536)(hops:∀i,∀o∈L i,o.Ok) :
  ∀k,GRel k mo ⟨(zbd (fun i=>zjp (doC S0.k mo) i (L i)) m0 k).1,(zbd (fun i=>zjp (doC S0.k mo) i (L i)) m0 k).2,[]⟩ ⟨zbx S0 L k,[]⟩∧∀j,k≤j→(zbd (fun i=>zjp (doC S0.k mo) i (L i)) m0 k).1.an j=[]
 | 0=>⟨⟨hag,fun i hi=>absurd hi (Nat.not_lt_zero _),fun i hi=>absurd hi (Nat.not_lt_zero _),rfl,⟨⟨by show(0:Int)≤S0.N;omega,fun i hi=>absurd hi (Nat.not_lt_zero _)⟩,by show S0.N≤0;omega,Nat.zero_le _⟩,fun i hi=>absurd hi (Nat.not_lt_zero _),hnum,fun i hi=>absurd hi (Nat.not_lt_zero _)⟩,fun j _=>han j⟩
 | k+1=>by
  obtain⟨h,ha⟩:=GRel.start hag han hser hnum hL hops k;obtain⟨i1,i2⟩:=zgk (S0:=S0) (L:=L) (by omega) hL (k+1);have hk0:(zbx S0 L k).k=S0.k:=(zgk (S0:=S0) (L:=L) (by omega) hL k).2.k;unfold zbd;simp only;generalize zbd (fun i=>zjp (doC S0.k mo) i (L i)) m0 k=sk at *;obtain⟨m,co⟩:=sk;simp only at h ha⊢;have hb:=zlj S0.k mo k ((zc3 (L k)).ops.length+1 - (zc3 (L k)).at_) (zc3 (L k)) m (by omega) rfl (ha k (yax _));have e0:(zc3 (L k)).ops.drop (zc3 (L k)).at_=L k:=rfl;rw[e0] at hb;rw[hb];have eM:zbx S0 L (k+1)=(zbx S0 L k).setT k (zda S0.k ((zc3 (L k)).ops.length+1 - (zc3 (L k)).at_) (zc3 (L k))):=by
   show zbm _ k=_;rw[zg8];show GMc.setT ((zbx S0 L k).setT k (zc3 (L k))) k (zda (zbx S0 L k).k ((((zbx S0 L k).setT k (zc3 (L k))).T k).ops.length+1 - (((zbx S0 L k).setT k (zc3 (L k))).T k).at_) (((zbx S0 L k).setT k (zc3 (L k))).T k))=_;rw[GMc.setT_T,GMc.setT_setT,hk0]
  have hdn:=zh0 (i:=k) ((zc3 (L k)).ops.length+1 - (zc3 (L k)).at_) (S:=(zbx S0 L k).setT k (zc3 (L k))) (.inl (by rw[GMc.setT_T];show(L k).length+1≤0+((L k).length+1 - 0);omega));rw[zfj,GMc.setT_T,GMc.setT_T] at hdn;rw[show((zbx S0 L k).setT k (zc3 (L k))).k=S0.k from hk0] at hdn
  generalize hT:zda S0.k ((zc3 (L k)).ops.length+1 - (zc3 (L k)).at_) (zc3 (L k))=T at *;have hXT:XInv T:=by
   rw[←hT];exact XInv.settle _ ⟨hops k,fun _ z=>absurd (show(0:Int)=2 from z) (by decide),fun _ _ z=>absurd (show(0:Int)=2 from z) (by decide)⟩
  rw[eM] at i1 i2⊢;refine⟨⟨⟨h.agr.W,h.agr.F,h.agr.B,h.agr.Ser,h.agr.N⟩,fun i hi=>?_,fun i hi=>?_,rfl,⟨i1,by show((zbx S0 L k).setT k T).N≤0;rw[i2.N];omega,Nat.zero_le _⟩,fun i hi=>?_,h.num.setT,fun i hi=>?_⟩,fun j hj=>?_⟩
  ·show upd m.an k T.ans i=(((zbx S0 L k).setT k T).T i).ans;by_cases z:i=k
   ·subst z;rw[upd_same,GMc.setT_T]
   ·rw[upd_ne _ _ z,zci z];exact h.an i (by omega)
  ·show ∃F,mo≤0+F∧upd co k _ i=coG (zbx S0 L k).k mo i F (((zbx S0 L k).setT k T).T i);by_cases z:i=k
   ·subst z;exact⟨mo,by omega,by rw[upd_same,GMc.setT_T,hk0]⟩
   ·obtain⟨F,q1,q2⟩:=h.co i (by omega);exact⟨F,q1,by rw[upd_ne _ _ z,zci z];exact q2⟩
  ·show XInv (((zbx S0 L k).setT k T).T i);by_cases z:i=k
   ·subst z;rw[GMc.setT_T];exact hXT
   ·rw[zci z];exact h.x i (by omega)
  ·show(((zbx S0 L k).setT k T).T i).pc≠0∨(((zbx S0 L k).setT k T).T i).ops.length≤(((zbx S0 L k).setT k T).T i).at_;by_cases z:i=k
   ·subst z;rw[GMc.setT_T];exact hdn
   ·rw[zci z];exact h.done i (by omega)
  ·show upd m.an k T.ans j=[];rw[upd_ne _ _ (by omega)];exact ha j (by omega)
end
end Go.Proofs.Ytofacoojpgkbiaa.Cl
