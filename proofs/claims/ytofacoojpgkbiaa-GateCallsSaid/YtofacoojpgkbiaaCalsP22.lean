/-
  A part of a proof. No condition of its own.
-/
import Derived.Deep.DeepCutAuto
import Derived.Test.YtofacoojpgkbiaaCalsP21
set_option linter.unusedVariables false
set_option maxHeartbeats 8000000
set_option linter.unusedSimpArgs false
namespace Go.Proofs.Ytofacoojpgkbiaa
open Go.Conc Go.RowKit
set_option maxRecDepth 100000 in
theorem zmi {a b:Value} {l:List Int} {w:World} (ha:IntsAt w a l) (hb:IntsAt w b l) (hl:l.length≤1000000000) :
  Calls Try.prog 23 #[a,b] w fun e w'=>e = .returned (.bool true)∧Below w.heap.size w w':=by
 obtain ⟨pa,ca,rfl,qa⟩:=ha;obtain ⟨pb,cb,rfl,qb⟩:=hb;have H0:=yay (Below.refl w.heap.size w);generalize hN:w.heap.size=N at *;replace hN:=yay hN;go_enter Try.func23,Try.ntmps23
 go_wp2_with fail
 go_loopw [5] (fun iv wr=>∃ j:Nat,j≤l.length∧iv = .int .i64 j∧Hid (Below N w wr)) (fun iv _=>l.length - (intOf iv).toNat)
 case atStart=>exact ⟨0,by omega,rfl,H0⟩
 case round =>
  obtain ⟨j,hj,rfl,HB⟩:=hrel;by_cases hlt:j < l.length
  ·have hlt':(j:Int) < (l.length:Int):=by omega
   have hne:l≠[]:=fun z=>by rw [z] at hlt;simp at hlt
   obtain ⟨ba,oa,rfl,ka⟩:=qa hne;obtain ⟨bb,ob,rfl,kb⟩:=qb hne;have hx:=List.getElem?_eq_getElem hlt;have k1:=ka j _ hx;have k2:=kb j _ hx;generalize l[j]=x at *;have k1:wr.cell? ⟨ba,oa+j,none⟩=some (.int .i64 x):=zax (w:=w) (fun b hb=>HB.out.block b (by rw [← hN.out];exact hb)) k1;have k2:wr.cell? ⟨bb,ob+j,none⟩=some (.int .i64 x):=zax (w:=w) (fun b hb=>HB.out.block b (by rw [← hN.out];exact hb)) k2;have e2:IntKind.i64.wrap ((j:Int)+1)=((j+1:Nat):Int):=by rw [IntKind.wrap_i64];omega
   clear ka kb qa qb hx;have HD:=yay HB.out.drew;go_upto_region 6 with fail
   go_region
   all_goals
    go_wp2_with fail
    exact ⟨⟨j+1,by omega,by rw [Int.natCast_add];rfl,HD⟩,by simp [intOf];omega⟩
  ·obtain rfl:j=l.length:=by omega
   go_wp2_with fail
   go_ret
   exact ⟨rfl,HB.out⟩
set_option maxRecDepth 100000 in
theorem ztn {a b:Value} {l:List Ans} {w:World} (hll:∀ r∈l,r.l.length≤1000000000) (ha:AnsIn w a l) (hb:AnsIn w b l) (hl:l.length≤1000000000) :
  Calls Try.prog 22 #[a,b] w fun e w'=>e = .returned (.bool true)∧Below w.heap.size w w':=by
 obtain ⟨pa,ca,rfl,qa⟩:=ha;obtain ⟨pb,cb,rfl,qb⟩:=hb;have H0:=yay (Below.refl w.heap.size w);generalize hN:w.heap.size=N at *;replace hN:=yay hN;go_enter Try.func22,Try.ntmps22
 go_wp2_with fail
 go_loopw [5] (fun iv wr=>∃ j:Nat,j≤l.length∧iv = .int .i64 j∧Hid (Below N w wr)) (fun iv _=>l.length - (intOf iv).toNat)
 case atStart=>exact ⟨0,by omega,rfl,H0⟩
 case round =>
  obtain ⟨j,hj,rfl,HB⟩:=hrel;by_cases hlt:j < l.length
  ·have hlt':(j:Int) < (l.length:Int):=by omega
   have hne:l≠[]:=fun z=>by rw [z] at hlt;simp at hlt
   obtain ⟨ba,oa,rfl,ka⟩:=qa hne;obtain ⟨bb,ob,rfl,kb⟩:=qb hne;have hx:=List.getElem?_eq_getElem hlt;obtain ⟨a0,a1,ua,a2,ia⟩:=ka j _ hx;obtain ⟨b0,b1,ub,b2,ib⟩:=kb j _ hx;have hrl:=hll _ (List.getElem_mem hlt);generalize l[j]=x at *;obtain ⟨ok,m,rl⟩:=x;have HN:Hid (∀ w',Below wr.heap.size wr w'→Calls Try.prog 23 #[ua,ub] w' fun e w''=>e = .returned (.bool true)∧Below w'.heap.size w' w''):=yay fun w' hb'=>by
    have kk:∀ b,b < w.heap.size→w'.heap[b]?=w.heap[b]?:=fun b hb=>(hb'.block b (by have h1:=HB.out.size;have h2:=hN.out;omega)).trans (HB.out.block b (by rw [← hN.out];exact hb));exact zmi (ia.mono kk) (ib.mono kk) hrl
   have eua:∃ x1 x2 x3,ua = .slice x1 x2 x3:=by obtain ⟨x1,x2,e,_⟩:=ia;exact ⟨_,_,_,e⟩
   have eub:∃ x1 x2 x3,ub = .slice x1 x2 x3:=by obtain ⟨x1,x2,e,_⟩:=ib;exact ⟨_,_,_,e⟩
   obtain ⟨y1,y2,y3,rfl⟩:=eua;obtain ⟨z1,z2,z3,rfl⟩:=eub;clear ia ib hrl;have kp:∀ {ad:Addr} {v:Value},w.cell? ad=some v→wr.cell? ad=some v:=fun {ad v} h=>zax (w:=w) (fun b hb=>HB.out.block b (by rw [← hN.out];exact hb)) h;replace a0:=kp a0;replace a1:=kp a1;replace a2:=kp a2;replace b0:=kp b0;replace b1:=kp b1;replace b2:=kp b2;have e2:IntKind.i64.wrap ((j:Int)+1)=((j+1:Nat):Int):=by rw [IntKind.wrap_i64];omega
   clear kp ka kb qa qb hx;have hmm:(m != m)=false:=by simp
   have hsz:N≤wr.heap.size:=by have:=HB.out.size;have:=hN.out;omega
   replace hsz:=yay hsz;have HD:=yay HB.out.drew;simp only at a0 a1 b0 b1;go_upto_region 6 with fail
   go_cut [54] (fun v wx=>v = .bool false∧Below N w wx)
   case first =>
    cases ok
    ·have HK:Hid (∀ w',Below wr.heap.size wr w'→(w'.cell? ⟨ba,oa+j * 3,none⟩=some (.bool false)∧w'.cell? ⟨ba,oa+j * 3+1,none⟩=some (.int .i64 m)∧w'.cell? ⟨ba,oa+j * 3+2,none⟩=some (.slice y1 y2 y3)∧w'.cell? ⟨bb,ob+j * 3,none⟩=some (.bool false)∧w'.cell? ⟨bb,ob+j * 3+1,none⟩=some (.int .i64 m)∧w'.cell? ⟨bb,ob+j * 3+2,none⟩=some (.slice z1 z2 z3))):=yay (fun w' h=>⟨zax h.block a0,zax h.block a1,zax h.block a2,zax h.block b0,zax h.block b1,zax h.block b2⟩)
     go_region_held3 (fun w'=>w'.cell? ⟨ba,oa+j * 3,none⟩=some (.bool false)∧w'.cell? ⟨ba,oa+j * 3+1,none⟩=some (.int .i64 m)∧w'.cell? ⟨ba,oa+j * 3+2,none⟩=some (.slice y1 y2 y3)∧w'.cell? ⟨bb,ob+j * 3,none⟩=some (.bool false)∧w'.cell? ⟨bb,ob+j * 3+1,none⟩=some (.int .i64 m)∧w'.cell? ⟨bb,ob+j * 3+2,none⟩=some (.slice z1 z2 z3))
      (first|exact HK.out _ (Below.refl _ _).drew|exact HK.out _ HB5.out)
      ((go_at_call 23;refine (HN.out _ (Below.refl _ _).drew).mono ?_;rintro e w5 ⟨rfl,hb5⟩;(have HB5:Hid (Below wr.heap.size wr w5):=yay ((Below.refl wr.heap.size wr).drew.trans hb5));clear hb5))
     all_goals (go_wp2_with fail;go_meet)
     all_goals exact ⟨rfl,HB.out.trans (HB5.out.mono hsz.out)⟩
    ·have HK:Hid (∀ w',Below wr.heap.size wr w'→(w'.cell? ⟨ba,oa+j * 3,none⟩=some (.bool true)∧w'.cell? ⟨ba,oa+j * 3+1,none⟩=some (.int .i64 m)∧w'.cell? ⟨ba,oa+j * 3+2,none⟩=some (.slice y1 y2 y3)∧w'.cell? ⟨bb,ob+j * 3,none⟩=some (.bool true)∧w'.cell? ⟨bb,ob+j * 3+1,none⟩=some (.int .i64 m)∧w'.cell? ⟨bb,ob+j * 3+2,none⟩=some (.slice z1 z2 z3))):=yay (fun w' h=>⟨zax h.block a0,zax h.block a1,zax h.block a2,zax h.block b0,zax h.block b1,zax h.block b2⟩)
     go_region_held3 (fun w'=>w'.cell? ⟨ba,oa+j * 3,none⟩=some (.bool true)∧w'.cell? ⟨ba,oa+j * 3+1,none⟩=some (.int .i64 m)∧w'.cell? ⟨ba,oa+j * 3+2,none⟩=some (.slice y1 y2 y3)∧w'.cell? ⟨bb,ob+j * 3,none⟩=some (.bool true)∧w'.cell? ⟨bb,ob+j * 3+1,none⟩=some (.int .i64 m)∧w'.cell? ⟨bb,ob+j * 3+2,none⟩=some (.slice z1 z2 z3))
      (first|exact HK.out _ (Below.refl _ _).drew|exact HK.out _ HB5.out)
      ((go_at_call 23;refine (HN.out _ (Below.refl _ _).drew).mono ?_;rintro e w5 ⟨rfl,hb5⟩;(have HB5:Hid (Below wr.heap.size wr w5):=yay ((Below.refl wr.heap.size wr).drew.trans hb5));clear hb5))
     all_goals (go_wp2_with fail;go_meet)
     all_goals exact ⟨rfl,HB.out.trans (HB5.out.mono hsz.out)⟩
   case rest =>
    obtain ⟨rfl,hb6⟩:=hcut;have HB6:=yay hb6;clear hb6
    go_wp2_with fail
    exact ⟨⟨j+1,by omega,by rw [Int.natCast_add];rfl,HB6⟩,by simp [intOf];omega⟩
  ·obtain rfl:j=l.length:=by omega
   go_wp2_with fail
   go_ret
   exact ⟨rfl,HB.out⟩
end Go.Proofs.Ytofacoojpgkbiaa
namespace Go.Proofs.Ytofacoojpgkbiaa
open Go.Conc Go.RowKit
open Go.ConcN (upd upd_ne upd_same)
set_option maxRecDepth 100000
noncomputable def c5:Code:=(Try.f5.body).getD .skip
structure NS (w0:World) (gz gw:Nat) (sz sw:GateS) (oz ow:Nat→Owner) (w:World):Prop where
 z:GW gz sz oz w
 wt:GW gw sw ow w
 dis:∀ b,oz b = .out∨ow b = .out
 l:LeftW w0 w
 oz0:∀ b,b < w0.heap.size→oz b = .out
 ow0:∀ b,b < w0.heap.size→ow b = .out
section
variable {w0 w w':World} {gz gw:Nat} {sz sw s':GateS} {oz ow o':Nat→Owner}
theorem NS.left (h:NS w0 gz gw sz sw oz ow w) (l:LeftW w w'):NS w0 gz gw sz sw oz ow w' :=
 ⟨h.z.keep l.size fun b hb _=>l.same b hb,h.wt.keep l.size fun b hb _=>l.same b hb,h.dis,h.l.trans l,h.oz0,h.ow0⟩
theorem NS.sim (h:NS w0 gz gw sz sw oz ow w) (e:w'.heap=w.heap) (ho:w'.os=w.os∧w'.output=w.output):NS w0 gz gw sz sw oz ow w':=h.left (.of_sim e ho)
theorem NS.stepZ (h:NS w0 gz gw sz sw oz ow w) (g:GW gz s' o' w') (l:Left oz o' w w'):NS w0 gz gw s' sw o' ow w':=by
 obtain ⟨h1,h2⟩:=GW.beside (g1:=gz) (s1:=sz) h.wt h.dis l;have hs:=h.l.size;exact ⟨g,h1,h2,⟨fun b hb=>(l.same b (by omega) (h.oz0 b hb)).2.trans (h.l.same b hb),Nat.le_trans hs l.size,l.outs.1.trans h.l.outs.1,l.outs.2.trans h.l.outs.2⟩,fun b hb=>(l.same b (by omega) (h.oz0 b hb)).1,h.ow0⟩
theorem NS.stepW (h:NS w0 gz gw sz sw oz ow w) (g:GW gw s' o' w') (l:Left ow o' w w'):NS w0 gz gw sz s' oz o' w':=by
 obtain ⟨h1,h2⟩:=GW.beside (g1:=gw) (s1:=sw) h.z (fun b=>(h.dis b).symm) l;have hs:=h.l.size;exact ⟨h1,g,fun b=>(h2 b).symm,⟨fun b hb=>(l.same b (by omega) (h.ow0 b hb)).2.trans (h.l.same b hb),Nat.le_trans hs l.size,l.outs.1.trans h.l.outs.1,l.outs.2.trans h.l.outs.2⟩,h.oz0,fun b hb=>(l.same b (by omega) (h.ow0 b hb)).1⟩
end
noncomputable def tail5:Code:=cB (cB (cB (cB (cB c5))))
noncomputable def ops5:Code:=cA (cA (cB (cA (cB tail5))))
section
variable {Z:Machine→Trace→Prop} {c:Frame} {cs:List Frame} {gz gw:Nat} {oz:Nat→Owner} {R:List Item} {w0:World} {va:Value}
end
structure AnsAt (oz ow:Nat→Owner) (w:World) (u:Value) (r:Ans):Prop where
 at_:∃ v,u=zdp r v∧w.ownsRow 0 2 1 v r.l.length (zaw r.l)∧∀ b,v.ownBlock=some b→oz b = .out∧ow b = .out
theorem AnsAt.keep {oz ow oz' ow':Nat→Owner} {w w':World} {u:Value} {r:Ans} (h:AnsAt oz ow w u r) (hk:∀ b,b < w.heap.size→oz b = .out→ow b = .out→(oz' b = .out∧ow' b = .out)∧w'.heap[b]?=w.heap[b]?):AnsAt oz' ow' w' u r:=by
 obtain ⟨v,e,hr,hb⟩:=h;exact ⟨v,e,zar hr fun g ob hg hh=>by
  obtain ⟨h1,h2⟩:=hb g hg;exact (hk g (zbc hr hg).2 h1 h2).2.trans hh,fun b hg=>by
  obtain ⟨h1,h2⟩:=hb b hg;exact (hk b (zbc hr hg).2 h1 h2).1⟩
structure BlkAt (oz ow:Nat→Owner) (w:World) (K:Nat) (o:Obj):Prop where
 z:oz K = .out
 wt:ow K = .out
 at_:w.heap[K]?=some o
theorem BlkAt.keep {oz ow oz' ow':Nat→Owner} {w w':World} {K:Nat} {o:Obj} (h:BlkAt oz ow w K o) (hk:∀ b,b < w.heap.size→oz b = .out→ow b = .out→(oz' b = .out∧ow' b = .out)∧w'.heap[b]?=w.heap[b]?):BlkAt oz' ow' w' K o:=by
 have:=hk K (yah.1 h.at_).1 h.z h.wt;exact ⟨this.1.1,this.1.2,this.2.trans h.at_⟩
def z0h:Obj := .cells #[.bool false,.int .i64 0,.slice none 0 0] 42 (0,0)
section
variable {w0 w w':World} {gz gw N:Nat} {s:GateS} {o:OpD} {z x:Nat→Value} {listed:Array Bool} {oz ow oz' ow':Nat→Owner}
theorem zaf {listed:Array Bool} {i j:Nat} (h:j≠i):(listed.setIfInBounds i true).getD j false=listed.getD j false:=by
 by_cases hj:j < listed.size
 ·simp only [Array.getD,Array.size_setIfInBounds,hj,dite_true,Array.getInternal_eq_getElem];rw [Array.getElem_setIfInBounds_ne _ (fun e=>h e.symm)]
 ·simp [Array.getD,hj]
end
theorem step207 (w:World) (sb x:Nat) (hx:x < 4611686018427387904) (h:w.heap[sb]?=some (.cells #[.int .i64 x] 39 (0,0))):Calls Try.prog 207 #[.pointer (some ⟨sb,0,none⟩)] w fun e w'=>e = .returned (.tuple #[])∧Sim w' (w.setCell ⟨sb,0,none⟩ (.int .i64 (x+1:Nat))):=by
 have c0:=zac h 0;have f0:=zan h 0;simp only [yac,yaa] at c0;have e1:IntKind.i64.wrap ((x:Int)+1)=((x+1:Nat):Int):=by rw [IntKind.wrap_i64];omega
 replace h:=yay h;replace hx:=yay hx;go_enter Try.func207,Try.ntmps207
 go_wp2_with fail
 go_end0
 exact ⟨rfl,by rw [Int.natCast_add];exact .refl _⟩
theorem countsG:zyf 37 39 207:=⟨fun a w=>by kernel_rfl,zju zah (by kernel_rfl) (by kernel_rfl) (by kernel_rfl),⟨_,Try.func207,by kernel_rfl,by kernel_rfl⟩,fun w sb x hx h=>step207 w sb x hx h⟩
open Classical in
noncomputable def zyj (own:Nat→Owner) (n sb:Nat):Nat→Owner:=fun b=>if b=sb then .tun else zgn own n b
structure LeftC (sb:Nat) (own own':Nat→Owner) (w w':World):Prop where
 same:∀ b,b < w.heap.size→b≠sb→own b = .out→own' b = .out∧w'.heap[b]?=w.heap[b]?
 cnt:own' sb = .out
 size:w.heap.size≤w'.heap.size
 outs:w'.os=w.os∧w'.output=w.output
def z02 (x:Nat):Obj := .cells #[.int .i64 x] 39 (0,0)
section
variable {Z:Machine→Trace→Prop} {Q:Nat→SM GateS→Prop} {o:Os×Array (Nat×ByteArray)} {gb sb:Nat} {s s':GateS} {own:Nat→Owner} {w:World} {c:Frame} {cs:List Frame}
abbrev cMd (gb sb:Nat) (Z:Machine→Trace→Prop) (Q:Nat→SM GateS→Prop) (o:Os×Array (Nat×ByteArray)):Md (SM GateS):=ctMd (zhs gb) 0 Z Q o 37 39 sb
theorem zsv:(cMd gb sb Z Q o).Ok:=ctMd_ok (locG gb) countsG
theorem partC:Part (cMd gb sb Z Q o) (idL GateS) (GateAt gb) gb TS2:=⟨fun h=>h,fun _ _ h=>h⟩
theorem GW.ctxC (h:GW gb s own w) {x:Nat} (hs:own sb = .out) (hc:w.heap[sb]?=some (z02 x)):(cMd gb sb Z Q o).C x (zyj own w.heap.size sb) (fun _=>False) ⟨w.heap,⟨s,fun _=>[]⟩,zyj own w.heap.size sb⟩ w ⟨s,fun _=>[]⟩:=by
 have hlt:=(yah.1 hc).1;refine ⟨⟨if_pos rfl,hc⟩,?_,fun b hb=>?_,fun b hb=>hb.elim,rfl,.refl⟩
 ·refine (zgr gb).keep h.rep (fun b c t f hb _ _ _=>⟨?_,rfl⟩) (fun b v _ hb=>⟨?_,rfl⟩) fun b v hb=>?_
  ·unfold zyj zgn;rw [if_neg fun z=>by rw [z,hs] at hb;cases hb];rw [hb];simp
  ·unfold zyj zgn;rw [if_neg fun z=>by rw [z,hs] at hb;cases hb];rw [hb];simp
  ·unfold zyj zgn at hb;split at hb
   ·cases hb
   split at hb
   ·cases hb;exact .inr (by omega)
   ·exact .inl hb
 ·unfold zyj zgn;rw [if_neg (by omega),if_neg (by omega)];exact h.new b hb
theorem GW.afterC {A₁:Nat→Prop} {w₁:W0 (SM GateS)} (h:GW gb s own w) {x:Nat} (hs:own sb = .out) (hc:w.heap[sb]?=some (z02 x)) {y:Nat} {own4:Nat→Owner} {w4:World} {m4:SM GateS} (C:(cMd gb sb Z Q o).C y own4 A₁ w₁ w4 m4) (L:Less 0 (fun _=>False) ⟨w.heap,⟨s,fun _=>[]⟩,zyj own w.heap.size sb⟩ A₁ w₁) (hm:m4=⟨s',fun _=>[]⟩) (hk:w4.os=w.os∧w4.output=w.output) :
  GW gb s' (zgm gb own4) w4∧LeftC sb own (zgm gb own4) w w4∧w4.heap[sb]?=some (z02 y):=by
 have hlt:=(yah.1 hc).1;obtain ⟨os4,oc4⟩:=C.side;have tg:∀ b,b < w.heap.size→b≠sb→own b = .out→own4 b = .tag 0∧w4.heap[b]?=w.heap[b]?:=fun b hb hn ho=>by
  have h1:zyj own w.heap.size sb b = .tag 0:=(if_neg hn).trans (if_pos ⟨ho,hb⟩);obtain ⟨q1,q2⟩:=L.tag b 0 h1;obtain ⟨q3,q4⟩:=C.tg b 0 q1;exact ⟨q3,q4.trans q2⟩
 have hrep:GateAt gb m4.st own4 w4:=C.rep;rw [hm] at hrep;have hs4:w.heap.size≤w4.heap.size:=by
  rcases Nat.lt_or_ge w4.heap.size w.heap.size with z|z
  ·have hne:w4.heap.size≠sb:=fun e=>by
    have:=(yah.1 oc4).1;omega
   by_cases ho:own w4.heap.size = .out
   ·have h1:=(tg _ z hne ho).1;rw [C.fresh _ (yax _)] at h1;cases h1
   ·obtain ⟨_,_,gcell,_⟩:=hrep.cell;have gl:=(yah.1 gcell).1;rcases h.pub _ ho with h1|⟨v,_,h1⟩
    ·omega
    ·have h3:zyj own w.heap.size sb w4.heap.size = .tag v:=(if_neg hne).trans ((if_neg fun q=>ho q.1).trans h1);obtain ⟨q1,_⟩:=L.tag _ v h3;have h4:=(C.tg _ v q1).1;rw [C.fresh _ (yax _)] at h4;cases h4
  ·exact z
 obtain ⟨_,_,gcell,_⟩:=hrep.cell;have gl:=(yah.1 gcell).1;have og:=hrep.sh;have hout:∀ b,b≠gb→(¬ ∃ t,0 < t∧own4 b = .tag t)→zgm gb own4 b = .out:=fun b h1 h2=>by
  unfold zgm;rw [if_neg h1,if_neg h2]
 refine ⟨⟨zim hrep ⟨if_pos rfl,rfl⟩ (fun b v hv hb=>⟨?_,rfl⟩) fun b v hb=>?_,fun b hb=>hout b (by omega) ?_,fun b hb=>?_⟩,⟨fun b hb hn ho=>⟨hout b ?_ ?_,(tg b hb hn ho).2⟩,hout sb ?_ ?_,hs4,hk⟩,oc4⟩
 ·have hne:b≠gb:=fun z=>by rw [z,og] at hb;cases hb
  unfold zgm;rw [if_neg hne,if_pos ⟨v,hv,hb⟩];exact hb
 ·unfold zgm at hb;split at hb
  ·cases hb
  ·split at hb
   ·exact .inl hb
   ·cases hb
 ·rintro ⟨t,_,z⟩;rw [C.fresh b hb] at z;cases z
 ·unfold zgm at hb ⊢;split
  ·rename_i z;exact .inl z
  ·rename_i z;rw [if_neg z] at hb;split at hb
   ·rename_i q;obtain ⟨t,h1,h2⟩:=q;rw [if_pos ⟨t,h1,h2⟩];exact .inr ⟨t,h1,h2⟩
   ·exact absurd rfl hb
 ·intro z;have h1:=(tg b hb hn ho).1;rw [z,og] at h1;cases h1
 ·rintro ⟨t,h0,z⟩;rw [(tg b hb hn ho).1] at z;cases z;omega
 ·intro z;rw [z,og] at os4;cases os4
 ·rintro ⟨t,h0,z⟩;rw [os4] at z;cases z
open Classical in
theorem zuq (G0:GW gb s own w) {o:OpD} (ho:o.Ok) {x:Nat} (hs:own sb = .out) (hc:w.heap[sb]?=some (z02 x)) (hx:x+ze0 s o < 4611686018427387904)
  (h:∀ own' w' v,GW gb (zbi s o).2 own' w'→LeftC sb own own' w w'→w'.heap[sb]?=some (z02 (x+ze0 s o))→LRow .out 0 own' w' v (zbi s o).1.l→(∀ b,v.ownBlock=some b→b≠sb∧(w.heap.size≤b∨own b ≠ .out))→RM Try.prog Z (G (c.finish (zdp (zbi s o).1 v)) cs) w') :
  RM Try.prog Z (G (Frame.enter Try.prog 21 #[gpv gb,.iface 37 (.pointer (some ⟨sb,0,none⟩)),opV o] .normal) (c::cs)) w:=by
 have hF:FF (fun y m=>m=⟨(zbi s o).2,fun _=>[]⟩∧y=x+ze0 s o) (callA (zlj (md:=cMd gb sb Z (fun y m=>m=⟨(zbi s o).2,fun _=>[]⟩∧y=x+ze0 s o) (w.os,w.output)) zsv partC 1) o (fun r=>if r=(zbi s o).1 then zn6 else ziq)) x ⟨s,fun _=>[]⟩:=by
  refine AlS.ff (al_call zsv partC G0.rep.mem) (by omega) ?_;show FinC _ ((if (zbi s o).1=(zbi s o).1 then zn6 else ziq) _).2 _ ((if (zbi s o).1=(zbi s o).1 then zn6 else ziq) _).1;rw [if_pos rfl];exact ⟨rfl,rfl⟩
 have:=zsu (md:=cMd gb sb Z (fun y m=>m=⟨(zbi s o).2,fun _=>[]⟩∧y=x+ze0 s o) (w.os,w.output)) (lo:=0) (A:=fun _=>False) (w₀:=⟨w.heap,⟨s,fun _=>[]⟩,zyj own w.heap.size sb⟩) (c:=c) (cs:=cs) zsv (zlj zsv partC 1) (fun _=>Nat.zero_le _) (κ:=fun r=>if r=(zbi s o).1 then zn6 else ziq) ho trivial (fun r v y own4 w4 m4 C4 hL _ hk hQ=>?_) _ _ _ _ (G0.ctxC hs hc) ⟨rfl,rfl⟩ hF
 ·exact this
 ·by_cases hr:r=(zbi s o).1
  ·subst hr;rw [if_pos rfl] at hQ;obtain ⟨hm,hy⟩:m4=_∧y=_:=hQ;obtain ⟨G1,L1,hcnt⟩:=G0.afterC hs hc C4 .refl hm hk;rw [hy] at hcnt;have hg:GateAt gb m4.st own4 w4:=C4.rep;obtain ⟨os4,_⟩:=C4.side;refine h _ _ v G1 L1 hcnt ⟨hL.row,fun b hb=>?_⟩ fun b hb=>⟨fun z=>?_,?_⟩
   ·have h1:=hL.mine b hb;have hne:b≠gb:=fun z=>by rw [z,hg.sh] at h1;cases h1
    unfold zgm;rw [if_neg hne,if_neg (by rintro ⟨t,_,z⟩;rw [h1] at z;cases z)]
   ·have h1:=hL.mine b hb;rw [z,os4] at h1;cases h1
   ·rcases Nat.lt_or_ge b w.heap.size with z|z
    ·refine .inr fun ho=>?_;have h1:=hL.mine b hb;by_cases e:b=sb
     ·rw [e,os4] at h1;cases h1
     ·rw [(C4.tg b 0 ((if_neg e).trans (if_pos ⟨ho,z⟩))).1] at h1;cases h1
    ·exact .inl z
  ·rw [if_neg hr] at hQ;exact hQ.elim
end
theorem za0 {P:Program} {Z:Machine→Trace→Prop} {b:Frame} {a:Act} {k:List Item} {cs:List Frame} {w:World} {ops:Array Oper} {i:Nat} {rest:List Nat} {o:Oper} {v:Value} (ho:ops[i]?=some o) (hw:Region.wanted o (yielded ops a.tmps)=true) (hk:b.kind ≠ .early) (hc:zc8 true P (fun _=>False) o)
  (hr:∀ wp,Sim wp w→(execOp a.eval o).run P wp = .ok (.value v) wp) (h:RM P Z (G (b.at (a.put o.dst v) (.inRegion ops rest::k)) cs) w):RM P Z (G (b.at a (.inRegion ops (i::rest)::k)) cs) w :=
 x_op rm_xc (zbt w) ho hw hk hc (n := .value v) (.inl rfl) (hr _ (by rw [zcy];exact .refl _)) rfl fun d w1 h1 h2 h3=>by
  have hw1:w1=w.at d:=zhf h2.okd (show Okd _ (w.at d) from (zbt w).okd) h1
  subst hw1;exact rm_xc.at_ _ _ _ h
theorem zh9 (w:World) (b:Nat) (r:Ans) (v:Value):(zf7 w b r v).os=w.os∧(zf7 w b r v).output=w.output:=⟨rfl,rfl⟩
theorem LeftW.trans' {w0 w w':World} (h:LeftW w0 w) (hs:w.heap.size≤w'.heap.size) (ho:w'.os=w.os∧w'.output=w.output) (hk:∀ b,b < w0.heap.size→w'.heap[b]?=w.heap[b]?):LeftW w0 w':=⟨fun b hb=>(hk b hb).trans (h.same b hb),Nat.le_trans h.size hs,ho.1.trans h.outs.1,ho.2.trans h.outs.2⟩
noncomputable def body3:Code:=cA (cA (cB ops5))
section
variable {Z:Machine→Trace→Prop} {c:Frame} {cs:List Frame} {w0 w:World} {gz gw N:Nat} {s:GateS} {o:OpD} {z:Nat→Value} {oz ow:Nat→Owner} {R:List Item}
end
noncomputable def c4:Code:=(Try.f4.body).getD .skip
def A4 (x:Nat→Value):Act:=⟨#[x 0,x 1,x 2,x 3,x 4,x 5,x 6,x 7,x 8,x 9,x 10,x 11,x 12,x 13,x 14,x 15,x 16,x 17,x 18,x 19,x 20,x 21,x 22,x 23,x 24,x 25,x 26,x 27,x 28,x 29,x 30,x 31,x 32,x 33,x 34,x 35,x 36,x 37,x 38,x 39,x 40,x 41,x 42,x 43,x 44,x 45,x 46,x 47,x 48,x 49,x 50,x 51,x 52,x 53,x 54,x 55,x 56,x 57,x 58,x 59,x 60,x 61,x 62,x 63,x 64,x 65,x 66,x 67,x 68,x 69,x 70,x 71,x 72,x 73,x 74,x 75,x 76,x 77,x 78,x 79,x 80,x 81,x 82,x 83,x 84,x 85,x 86,x 87,x 88,x 89,x 90,x 91,x 92,x 93,x 94,x 95,x 96,x 97,x 98,x 99,x 100,x 101,x 102,x 103,x 104,x 105,x 106,x 107,x 108,x 109,x 110,x 111,x 112,x 113,x 114,x 115,x 116,x 117,x 118],[]⟩
theorem zuw (l:Array Value) (hl:l.size=119):(⟨l,[]⟩:Act)=A4 fun j=>l.getD j undef:=by
 have e:∀ x:Nat→Value,(A4 x).tmps=((List.range 119).map x).toArray:=fun x=>rfl;have h1:l=(A4 fun j=>l.getD j undef).tmps:=by
  rw [e];apply Array.ext_getElem?;intro i;by_cases h:i < 119
  ·have h':i < l.size:=by omega
   simp [h,h',List.getElem?_range]
  ·have h':¬ i < l.size:=by omega
   rw [Array.getElem?_eq_none (by omega),Array.getElem?_eq_none (by simp;omega)]
 exact congrArg (Act.mk · []) h1
noncomputable def tail4:Code:=cB (cB (cB (cB (cB c4))))
noncomputable def zq5:Code:=cA (cA (cB (cA tail4)))
noncomputable def in10:Code:=cA (cA (cB zq5))
noncomputable def reg10:Code:=cA in10
noncomputable def mk (sb:Nat) (o:Nat→Owner):Nat→Owner:=upd o sb .tun
theorem mk_out {sb b:Nat} {o:Nat→Owner}:mk sb o b = .out↔b≠sb∧o b = .out:=by
 unfold mk;by_cases h:b=sb
 ·subst h;rw [upd_same];simp
 ·rw [upd_ne _ _ h];simp [h]
structure CS (w0:World) (gz gw sb n:Nat) (sz sw:GateS) (oz ow:Nat→Owner) (w:World):Prop where
 ns:NS w0 gz gw sz sw oz ow w
 sz:oz sb = .out
 sw:ow sb = .out
 lo:w0.heap.size≤sb
 cnt:w.heap[sb]?=some (z02 n)
section
variable {w0 w w':World} {gz gw sb n n':Nat} {sz sw s':GateS} {oz ow o':Nat→Owner}
theorem CS.lt (h:CS w0 gz gw sb n sz sw oz ow w):sb < w.heap.size:=(yah.1 h.cnt).1
theorem CS.left (h:CS w0 gz gw sb n sz sw oz ow w) (l:LeftW w w'):CS w0 gz gw sb n sz sw oz ow w':=⟨h.ns.left l,h.sz,h.sw,h.lo,(l.same sb h.lt).trans h.cnt⟩
theorem CS.sim (h:CS w0 gz gw sb n sz sw oz ow w) (e:w'.heap=w.heap) (ho:w'.os=w.os∧w'.output=w.output):CS w0 gz gw sb n sz sw oz ow w':=h.left (.of_sim e ho)
theorem CS.stepZ (h:CS w0 gz gw sb n sz sw oz ow w) (g:GW gz s' o' w') (l:Left oz o' w w'):CS w0 gz gw sb n s' sw o' ow w' :=
 ⟨h.ns.stepZ g l,(l.same sb h.lt h.sz).1,h.sw,h.lo,(l.same sb h.lt h.sz).2.trans h.cnt⟩
theorem CS.stepC (h:CS w0 gz gw sb n sz sw oz ow w) (g:GW gw s' o' w') (l:LeftC sb ow o' w w') (hc:w'.heap[sb]?=some (z02 n')):CS w0 gz gw sb n' sz s' oz o' w':=by
 obtain ⟨⟨hz,hw,hd,hl,z0,w0'⟩,h1,h2,h3,h4⟩:=h;have hlt:=(yah.1 h4).1;have hs:=hl.size;have ne:∀ {b},oz b ≠ .out→b≠sb:=fun hb e=>hb (e▸h1);refine ⟨⟨hz.keep l.size fun b hb ho=>(l.same b hb (ne ho) ((hd b).resolve_left ho)).2,g,fun b=>?_,⟨fun b hb=>(l.same b (by omega) (by omega) (w0' b hb)).2.trans (hl.same b hb),Nat.le_trans hs l.size,l.outs.1.trans hl.outs.1,l.outs.2.trans hl.outs.2⟩,z0,fun b hb=>(l.same b (by omega) (by omega) (w0' b hb)).1⟩,h1,l.cnt,h3,hc⟩;by_cases ho:oz b = .out
 ·exact .inl ho
 ·exact .inr (l.same b (hz.lt ho) (ne ho) ((hd b).resolve_left ho)).1
end
def tv10 (gz gw sb j b off n cap:Nat) (o:OpD):Nat→Option Value
 | 0=>some (gpv gz)|1=>some (.slice (some ⟨b,off,none⟩) n cap)|2=>some (.int .i64 j)|3=>some (.pointer (some ⟨b,off+j * 4,none⟩))|4=>some (opV o)
 | 6=>some (gpv gw)|7=>some (.pointer (some ⟨sb,0,none⟩))|8=>some (.iface 37 (.pointer (some ⟨sb,0,none⟩)))|9=>some (.slice (some ⟨b,off,none⟩) n cap)|10=>some (.int .i64 j)|11=>some (.pointer (some ⟨b,off+j * 4,none⟩))|12=>some (opV o)
 | _=>none
structure I10 (w0:World) (gz gw sb j b off len cap n:Nat) (s:GateS) (o:OpD) (z:Nat→Value) (listed:Array Bool) (x:Nat→Value) (oz ow:Nat→Owner) (w:World):Prop where
 xs:∀ j,j < 8→x j=z j
 tab:Tab (tv10 gz gw sb j b off len cap o) 41 listed x
 cs:CS w0 gz gw sb (if listed.getD 13 false=true then n+ze0 s o else n) (if listed.getD 5 false=true then (zbi s o).2 else s) (if listed.getD 13 false=true then (zbi s o).2 else s) oz ow w
 c5:listed.getD 5 false=true→AnsAt (mk sb oz) ow w (x 46) (zbi s o).1
 c13:listed.getD 13 false=true→AnsAt (mk sb oz) ow w (x 54) (zbi s o).1
 c14:listed.getD 14 false=true→∃ K,x 8 = .pointer (some ⟨K,0,none⟩)∧w0.heap.size≤K∧BlkAt (mk sb oz) ow w K z0h
 c15:listed.getD 15 false=true→∃ K,x 9 = .pointer (some ⟨K,0,none⟩)∧w0.heap.size≤K∧BlkAt (mk sb oz) ow w K z0h
 c67:listed.getD 14 false=true→listed.getD 15 false=true→x 8≠x 9
section
variable {w0 w w':World} {gz gw sb jj b off len cap n:Nat} {s:GateS} {o:OpD} {z x:Nat→Value} {listed:Array Bool} {oz ow oz' ow':Nat→Owner}
theorem I10.put (h:I10 w0 gz gw sb jj b off len cap n s o z listed x oz ow w) {i:Nat} {u:Value} (hi:i < 13∧i≠5) (ht:tv10 gz gw sb jj b off len cap o i=some u):I10 w0 gz gw sb jj b off len cap n s o z (listed.setIfInBounds i true) (upd x (41+i) u) oz ow w:=by
 refine ⟨fun j hj=>by rw [upd_ne _ _ (by omega)];exact h.xs j hj,h.tab.put (.inl ht),?_,fun q=>?_,fun q=>?_,fun q=>?_,fun q=>?_,fun q1 q2=>?_⟩
 ·rw [zaf (by omega),zaf (by omega)];exact h.cs
 ·rw [upd_ne _ _ (by omega)];exact h.c5 (by rwa [zaf (by omega)] at q)
 ·rw [upd_ne _ _ (by omega)];exact h.c13 (by rwa [zaf (by omega)] at q)
 ·rw [upd_ne _ _ (by omega)];exact h.c14 (by rwa [zaf (by omega)] at q)
 ·rw [upd_ne _ _ (by omega)];exact h.c15 (by rwa [zaf (by omega)] at q)
 ·rw [upd_ne _ _ (by omega),upd_ne _ _ (by omega)];exact h.c67 (by rwa [zaf (by omega)] at q1) (by rwa [zaf (by omega)] at q2)
end
theorem zn9x {n i:Nat} {P:Prop} (q:(Array.replicate n false).getD i false=true):P:=by
 rw [getD_replicate_false] at q;cases q
section
variable {Z:Machine→Trace→Prop} {c:Frame} {cs:List Frame} {w0 w:World} {gz gw sb N jj b off len cap n:Nat} {s:GateS} {o:OpD} {z:Nat→Value} {oz ow:Nat→Owner} {R:List Item}
theorem pair10 (ho:o.Ok) (hn:n+ze0 s o < 4611686018427387904) (hjl:jj < len) (hl9:len≤9223372036854775807) (hops:w0.cell? ⟨b,off+jj * 4,none⟩=some (.int .i64 o.kind)∧w0.cell? ⟨b,off+jj * 4+1,none⟩=some (.int .i64 o.a)∧w0.cell? ⟨b,off+jj * 4+2,none⟩=some (.int .i64 o.b)∧w0.cell? ⟨b,off+jj * 4+3,none⟩=some (.int .i64 o.c))
  (z0:z 0 = .slice (some ⟨b,off,none⟩) len cap) (z4:z 4=gpv gz) (z5:z 5=gpv gw) (z6:z 6 = .pointer (some ⟨sb,0,none⟩)) (z7:z 7 = .int .i64 jj) (I:CS w0 gz gw sb n s s oz ow w)
  (hret:∀ x oz ow w' K K' u1 u2,(∀ j,j < 8→x j=z j)→x 8 = .pointer (some ⟨K,0,none⟩)→x 9 = .pointer (some ⟨K',0,none⟩)→CS w0 gz gw sb (n+ze0 s o) (zbi s o).2 (zbi s o).2 oz ow w' →
   w'.heap[K]?=some (.cells #[.bool (zbi s o).1.ok,.int .i64 (zbi s o).1.n,u1] 42 (0,0))→w'.heap[K']?=some (.cells #[.bool (zbi s o).1.ok,.int .i64 (zbi s o).1.n,u2] 42 (0,0))→IntsAt w' u1 (zbi s o).1.l→IntsAt w' u2 (zbi s o).1.l→RM Try.prog Z (G ((base 4).at (A4 x) R) cs) w') :
  RM Try.prog Z (G ((base 4).at (A4 z) (.code reg10::R)) cs) w:=by
 replace hret:=yay hret;obtain ⟨o0,o1,o2,o3⟩:=hops;have hlt':(jj:Int) < (len:Int):=by omega
 have hj0:(0:Int)≤(jj:Int):=by omega
 rw [show reg10=Code.region _ _ _ from rfl]
 refine zm9 rm_xc 16 [[16,17]] rfl (by kernel_rfl) (zbt _) (fun listed a w=>∃ x oz ow,a=A4 x∧I10 w0 gz gw sb jj b off len cap n s o z listed x oz ow w) ?i0 ?ie ?ist
 case i0 =>
  refine ⟨z,oz,ow,rfl,fun _ _=>rfl,.zero,?_,zn9x,zn9x,zn9x,zn9x,zn9x⟩;rw [getD_replicate_false,getD_replicate_false];exact I
 case ie =>
  rintro a w3 ⟨x,oz3,ow3,rfl,hI⟩ r hr;obtain rfl:r=[16,17]:=by simpa using hr
  obtain ⟨v1,t37,r1,b1⟩:=hI.c5 rfl;obtain ⟨v2,t40,r2,b2⟩:=hI.c13 rfl;obtain ⟨K,t9,hK,hK1⟩:=hI.c14 rfl;obtain ⟨K',t10,hK',hK1'⟩:=hI.c15 rfl;have hne:K≠K':=fun z=>hI.c67 rfl rfl (by rw [t9,t10,z]);have hns:CS w0 gz gw sb (n+ze0 s o) (zbi s o).2 (zbi s o).2 oz3 ow3 w3:=hI.cs;have hxs:=hI.xs;clear hI hr o0 o1 o2 o3;generalize (zbi s o).1=rr at *;obtain ⟨a1,n1,c1,rfl⟩:∃ a n c,v1 = .slice a n c:=by rcases r1.2 with ⟨e,_⟩|⟨g',cap,cur,e,_⟩<;>exact ⟨_,_,_,e⟩
  obtain ⟨a2,n2,c2,rfl⟩:∃ a n c,v2 = .slice a n c:=by rcases r2.2 with ⟨e,_⟩|⟨g',cap,cur,e,_⟩<;>exact ⟨_,_,_,e⟩
  refine zv0 (rest:=[]) (by decide) [16,17] [_,_] rfl (zai (by kernel_rfl)) fun wp hp=>?_;have gk:wp.heap[K]?=some z0h:=(congrArg (·[K]?) hp.heap).trans hK1.at_;have gk':wp.heap[K']?=some z0h:=(congrArg (·[K']?) hp.heap).trans hK1'.at_;unfold z0h at gk gk';have k0:=zac gk 0;have k1:=zac gk 1;have k2:=zac gk 2;have f0:=zan gk 0;have f1:=zan gk 1;have f2:=zan gk 2;have gp:(zf7 wp K rr (.slice a1 n1 c1)).heap[K']?=_:=(ze8 (Ne.symm hne) rr _).trans gk';have k3:=zac gp 0;have k4:=zac gp 1;have k5:=zac gp 2;have f3:=zan gp 0;have f4:=zan gp 1;have f5:=zan gp 2;simp only [yac,yaa,yab] at k0 k1 k2 k3 k4 k5;unfold zf7 at k3 k4 k5 f3 f4 f5;replace gk:=yay gk;replace gp:=yay gp;replace gk':=yay gk';replace hp:=yay hp;replace hxs:=yay hxs;clear z0 z4 z5 z6 z7 hlt' hj0 hn hl9;unfold A4;simp only [t37,t40,t9,t10];unfold zdp
  go_wp2_with fail
  refine za4 rfl fun w4 h4=>?_;have e4:w4.heap=(zf7 (zf7 wp K rr (.slice a1 n1 c1)) K' rr (.slice a2 n2 c2)).heap:=h4.heap;have h4':Sim w4 (zf7 (zf7 wp K rr (.slice a1 n1 c1)) K' rr (.slice a2 n2 c2)):=h4;have o4:w4.os=w3.os∧w4.output=w3.output:=⟨h4'.outs.1.trans ((zh9 _ _ _ _).1.trans ((zh9 _ _ _ _).1.trans hp.out.outs.1)),h4'.outs.2.trans ((zh9 _ _ _ _).2.trans ((zh9 _ _ _ _).2.trans hp.out.outs.2))⟩;clear h4;have h4:=h4';clear h4';have ek:w4.heap[K]?=some (.cells #[.bool rr.ok,.int .i64 rr.n,.slice a1 n1 c1] 42 (0,0)):=by rw [e4,ze8 hne];exact znr gk.out rfl rr _
  have ek':w4.heap[K']?=some (.cells #[.bool rr.ok,.int .i64 rr.n,.slice a2 n2 c2] 42 (0,0)):=by rw [e4];exact znr gp.out rfl rr _
  have oth:∀ b,b≠K→b≠K'→w4.heap[b]?=w3.heap[b]?:=fun b h1 h2=>by rw [e4,ze8 h2,ze8 h1,hp.out.heap]
  have sz:w4.heap.size=w3.heap.size:=by rw [e4,zh8,zh8,hp.out.heap]
  have nty:∀ b cc t,w3.heap[b]?=some (.cells cc t (0,0))→t≠42→b≠K∧b≠K':=fun b cc t hb ht=>by
   refine ⟨fun z=>?_,fun z=>?_⟩
   ·rw [z,hK1.at_] at hb;simp only [z0h,Option.some.injEq,Obj.cells.injEq] at hb;exact ht hb.2.1.symm
   ·rw [z,hK1'.at_] at hb;simp only [z0h,Option.some.injEq,Obj.cells.injEq] at hb;exact ht hb.2.1.symm
  have kr:∀ {v:Value} {n:Nat} {xs:List Value},w3.ownsRow 0 2 1 v n xs→w4.ownsRow 0 2 1 v n xs:=fun hr=>zar hr fun g ob hg hh=>by
   obtain ⟨cc,hcc⟩:=zal hr hg;obtain ⟨h1,h2⟩:=nty g cc 2 hcc (by decide);exact (oth g h1 h2).trans hh
  have hsbN:=nty sb _ 39 hns.cnt (by decide);obtain ⟨_,hKz⟩:=mk_out.1 hK1.z;obtain ⟨_,hKz'⟩:=mk_out.1 hK1'.z;clear h4 hp gk gk' gp k0 k1 k2 k3 k4 k5 f0 f1 f2 f3 f4 f5;refine zad rm_xc ?_;rw [zuw _ rfl];have hnn:=hns.ns;refine hret.out _ oz3 ow3 w4 K K' _ _ ?xs ?x9 ?x10 ⟨⟨hnn.z.keep (by omega) fun b hb h0=>oth b (fun q=>h0 (q▸hKz)) (fun q=>h0 (q▸hKz')),hnn.wt.keep (by omega) fun b hb h0=>oth b (fun q=>h0 (q▸hK1.wt)) (fun q=>h0 (q▸hK1'.wt)),hnn.dis,hnn.l.trans' (by omega) o4 (fun b hb=>oth b (by omega) (by omega)),hnn.oz0,hnn.ow0⟩,hns.sz,hns.sw,hns.lo,(oth sb hsbN.1 hsbN.2).trans hns.cnt⟩ ek ek' (zdo (kr r1)) (zdo (kr r2))
  case x9=>rfl
  case x10=>rfl
  case xs =>
   intro j hj;rcases j with _|_|_|_|_|_|_|_|j<;>first|(exact hxs.out _ (by decide))|omega
 case ist =>
  rintro listed i hi8 hir a w3 r ⟨x,oz3,ow3,rfl,hI⟩ hnext;obtain ⟨hun,op,hop,hdep⟩:=mem_ready.1 hir;have x0:x 0 = .slice (some ⟨b,off,none⟩) len cap:=(hI.xs 0 (by decide)).trans z0;have x4:x 4=gpv gz:=(hI.xs 4 (by decide)).trans z4;have x5:x 5=gpv gw:=(hI.xs 5 (by decide)).trans z5;have x6:x 6 = .pointer (some ⟨sb,0,none⟩):=(hI.xs 6 (by decide)).trans z6;have x7:x 7 = .int .i64 jj:=(hI.xs 7 (by decide)).trans z7;have cc:∀ i v,w0.cell? ⟨b,off+jj * 4+i,none⟩=some v→∀ wp:World,Sim wp w3→wp.cell? ⟨b,off+jj * 4+i,none⟩=some v:=fun i v q wp hp=>by
   refine (World.cell?_of_block (w:=w0) ?_).trans q;show wp.heap[b]?=w0.heap[b]?;rw [hp.heap];exact hI.cs.ns.l.same b (World.block_lt_of_cell? w0 _ q)
  have q0:=cc 0 _ o0;have q1:=cc 1 _ o1;have q2:=cc 2 _ o2;have q3:=cc 3 _ o3;rw [Nat.add_zero] at q0;replace q0:=yay q0;replace q1:=yay q1;replace q2:=yay q2;replace q3:=yay q3;clear cc o0 o1 o2 o3;have hcase:i=0∨i=1∨i=2∨i=3∨i=4∨i=5∨i=6∨i=7∨i=8∨i=9∨i=10∨i=11∨i=12∨i=13∨i=14∨i=15:=by omega
  rcases hcase with rfl|rfl|rfl|rfl|rfl|rfl|rfl|rfl|rfl|rfl|rfl|rfl|rfl|rfl|rfl|rfl
  ·refine za0 rfl rfl (by decide) (zai (l:=[_]) (by kernel_rfl) _ (yaj.2 rfl)) (v:=gpv gz) (fun wp hp=>by
    unfold A4
    try unfold gpv opV at *
    go_simp<;>rfl) ?_
   exact hnext _ w3 ⟨upd x 41 _,oz3,ow3,rfl,hI.put (i:=0) (by omega) rfl⟩
  ·refine za0 rfl rfl (by decide) (zai (l:=[_]) (by kernel_rfl) _ (yaj.2 rfl)) (v := .slice (some ⟨b,off,none⟩) len cap) (fun wp hp=>by
    unfold A4
    try unfold gpv opV at *
    go_simp<;>rfl) ?_
   exact hnext _ w3 ⟨upd x 42 _,oz3,ow3,rfl,hI.put (i:=1) (by omega) rfl⟩
  ·refine za0 rfl rfl (by decide) (zai (l:=[_]) (by kernel_rfl) _ (yaj.2 rfl)) (v := .int .i64 jj) (fun wp hp=>by
    unfold A4
    try unfold gpv opV at *
    go_simp<;>rfl) ?_
   exact hnext _ w3 ⟨upd x 43 _,oz3,ow3,rfl,hI.put (i:=2) (by omega) rfl⟩
  ·have hop':=yaw hop;subst hop';have d1:listed.getD 1 false=true:=hdep ⟨1,.data⟩ (by simp) rfl;have t1:=hI.tab 1 _ rfl d1;simp only [Nat.reduceAdd] at t1;have d2:listed.getD 2 false=true:=hdep ⟨2,.data⟩ (by simp) rfl;have t2:=hI.tab 2 _ rfl d2;simp only [Nat.reduceAdd] at t2;refine za0 rfl rfl (by decide) (zai (l:=[_]) (by kernel_rfl) _ (yaj.2 rfl)) (v := .pointer (some ⟨b,off+jj * 4,none⟩)) (fun wp hp=>by
    unfold A4
    try unfold gpv opV at *
    go_simp<;>rfl) ?_
   exact hnext _ w3 ⟨upd x 44 _,oz3,ow3,rfl,hI.put (i:=3) (by omega) rfl⟩
  ·have hop':=yaw hop;subst hop';have d3:listed.getD 3 false=true:=hdep ⟨3,.data⟩ (by simp) rfl;have t3:=hI.tab 3 _ rfl d3;simp only [Nat.reduceAdd] at t3;refine za0 rfl rfl (by decide) (zai (l:=[_]) (by kernel_rfl) _ (yaj.2 rfl)) (v:=opV o) (fun wp hp=>by
    have k0:=q0.out wp hp;have k1:=q1.out wp hp;have k2:=q2.out wp hp;have k3:=q3.out wp hp;unfold A4
    try unfold gpv opV at *
    go_simp<;>rfl) ?_
   exact hnext _ w3 ⟨upd x 45 _,oz3,ow3,rfl,hI.put (i:=4) (by omega) rfl⟩
  ·have hop':=yaw hop;subst hop';have d0:listed.getD 0 false=true:=hdep ⟨0,.data⟩ (by simp) rfl;have d1:listed.getD 4 false=true:=hdep ⟨4,.data⟩ (by simp) rfl;have t0:x 41=gpv gz:=hI.tab 0 _ rfl d0;have t1:x 45=opV o:=hI.tab 4 _ rfl d1;have hno:listed.getD 5 false=false:=getD_both hun;obtain ⟨hsz,_⟩:=zhj hun;have hself:(listed.setIfInBounds 5 true).getD 5 false=true:=by simp [Array.getD,hsz]
   have hg:=hI.cs.ns.z;rw [hno,if_neg (by decide)] at hg;refine zat rm_xc rfl rfl (by decide) rfl Try.func21 (by kernel_rfl) (by kernel_rfl) ?_;unfold A4;simp only [t0,t1];walk_nrm;refine zxw hg ho fun oz4 w4 v G4 L4 hrow hnew=>?_;rw [Frame.finish_at];walk_nrm;rw [← t0,← t1];have hns:=hI.cs.stepZ G4 L4;have hk:∀ b,b < w3.heap.size→mk sb oz3 b = .out→ow3 b = .out→(mk sb oz4 b = .out∧ow3 b = .out)∧w4.heap[b]?=w3.heap[b]?:=fun b hb h1 h2=>⟨⟨mk_out.2 ⟨(mk_out.1 h1).1,(L4.same b hb (mk_out.1 h1).2).1⟩,h2⟩,(L4.same b hb (mk_out.1 h1).2).2⟩;refine hnext (A4 (upd x 46 (zdp (zbi s o).1 v))) w4 ⟨_,oz4,ow3,rfl,fun j hj=>by rw [upd_ne _ _ (by omega)];exact hI.xs j hj,hI.tab.put (i:=5) (.inr rfl),?_,fun _=>⟨v,upd_same _ _ _,hrow.row,fun b hb=>⟨mk_out.2 ⟨fun z=>(hnew b hb).elim (fun q=>by have:=hI.cs.lt;omega) fun q=>q (z▸hI.cs.sz),hrow.mine b hb⟩,(hnew b hb).elim (fun q=>hI.cs.ns.wt.new b q) fun q=>(hI.cs.ns.dis b).resolve_left q⟩⟩,fun q=>by rw [upd_ne _ _ (by decide)];exact (hI.c13 (by rwa [zaf (by decide)] at q)).keep hk,fun q=>?_,fun q=>?_,fun q1 q2=>?_⟩
   ·rw [hself,if_pos rfl,zaf (by decide)];exact hns
   ·rw [upd_ne _ _ (by decide)];exact (hI.c14 (by rwa [zaf (by decide)] at q)).imp fun K ⟨e,e1,e2⟩=>⟨e,e1,e2.keep hk⟩
   ·rw [upd_ne _ _ (by decide)];exact (hI.c15 (by rwa [zaf (by decide)] at q)).imp fun K ⟨e,e1,e2⟩=>⟨e,e1,e2.keep hk⟩
   ·rw [upd_ne _ _ (by decide),upd_ne _ _ (by decide)];exact hI.c67 (by rwa [zaf (by decide)] at q1) (by rwa [zaf (by decide)] at q2)
  ·refine za0 rfl rfl (by decide) (zai (l:=[_]) (by kernel_rfl) _ (yaj.2 rfl)) (v:=gpv gw) (fun wp hp=>by
    unfold A4
    try unfold gpv opV at *
    go_simp<;>rfl) ?_
   exact hnext _ w3 ⟨upd x 47 _,oz3,ow3,rfl,hI.put (i:=6) (by omega) rfl⟩
  ·refine za0 rfl rfl (by decide) (zai (l:=[_]) (by kernel_rfl) _ (yaj.2 rfl)) (v := .pointer (some ⟨sb,0,none⟩)) (fun wp hp=>by
    unfold A4
    try unfold gpv opV at *
    go_simp<;>rfl) ?_
   exact hnext _ w3 ⟨upd x 48 _,oz3,ow3,rfl,hI.put (i:=7) (by omega) rfl⟩
  ·have hop':=yaw hop;subst hop';have d7:listed.getD 7 false=true:=hdep ⟨7,.data⟩ (by simp) rfl;have t7:=hI.tab 7 _ rfl d7;simp only [Nat.reduceAdd] at t7;refine za0 rfl rfl (by decide) (zai (l:=[_]) (by kernel_rfl) _ (yaj.2 rfl)) (v := .iface 37 (.pointer (some ⟨sb,0,none⟩))) (fun wp hp=>by
    unfold A4
    try unfold gpv opV at *
    go_simp<;>rfl) ?_
   exact hnext _ w3 ⟨upd x 49 _,oz3,ow3,rfl,hI.put (i:=8) (by omega) rfl⟩
  ·refine za0 rfl rfl (by decide) (zai (l:=[_]) (by kernel_rfl) _ (yaj.2 rfl)) (v := .slice (some ⟨b,off,none⟩) len cap) (fun wp hp=>by
    unfold A4
    try unfold gpv opV at *
    go_simp<;>rfl) ?_
   exact hnext _ w3 ⟨upd x 50 _,oz3,ow3,rfl,hI.put (i:=9) (by omega) rfl⟩
  ·refine za0 rfl rfl (by decide) (zai (l:=[_]) (by kernel_rfl) _ (yaj.2 rfl)) (v := .int .i64 jj) (fun wp hp=>by
    unfold A4
    try unfold gpv opV at *
    go_simp<;>rfl) ?_
   exact hnext _ w3 ⟨upd x 51 _,oz3,ow3,rfl,hI.put (i:=10) (by omega) rfl⟩
  ·have hop':=yaw hop;subst hop';have d9:listed.getD 9 false=true:=hdep ⟨9,.data⟩ (by simp) rfl;have t9:=hI.tab 9 _ rfl d9;simp only [Nat.reduceAdd] at t9;have d10:listed.getD 10 false=true:=hdep ⟨10,.data⟩ (by simp) rfl;have t10:=hI.tab 10 _ rfl d10;simp only [Nat.reduceAdd] at t10;refine za0 rfl rfl (by decide) (zai (l:=[_]) (by kernel_rfl) _ (yaj.2 rfl)) (v := .pointer (some ⟨b,off+jj * 4,none⟩)) (fun wp hp=>by
    unfold A4
    try unfold gpv opV at *
    go_simp<;>rfl) ?_
   exact hnext _ w3 ⟨upd x 52 _,oz3,ow3,rfl,hI.put (i:=11) (by omega) rfl⟩
  ·have hop':=yaw hop;subst hop';have d11:listed.getD 11 false=true:=hdep ⟨11,.data⟩ (by simp) rfl;have t11:=hI.tab 11 _ rfl d11;simp only [Nat.reduceAdd] at t11;refine za0 rfl rfl (by decide) (zai (l:=[_]) (by kernel_rfl) _ (yaj.2 rfl)) (v:=opV o) (fun wp hp=>by
    have k0:=q0.out wp hp;have k1:=q1.out wp hp;have k2:=q2.out wp hp;have k3:=q3.out wp hp;unfold A4
    try unfold gpv opV at *
    go_simp<;>rfl) ?_
   exact hnext _ w3 ⟨upd x 53 _,oz3,ow3,rfl,hI.put (i:=12) (by omega) rfl⟩
  ·have hop':=yaw hop;subst hop';have d0:listed.getD 6 false=true:=hdep ⟨6,.data⟩ (by simp) rfl;have d1:listed.getD 12 false=true:=hdep ⟨12,.data⟩ (by simp) rfl;have t0:x 47=gpv gw:=hI.tab 6 _ rfl d0;have t1:x 53=opV o:=hI.tab 12 _ rfl d1;have d2:listed.getD 8 false=true:=hdep ⟨8,.data⟩ (by simp) rfl;have t2:x 49 = .iface 37 (.pointer (some ⟨sb,0,none⟩)):=hI.tab 8 _ rfl d2;have hno:listed.getD 13 false=false:=getD_both hun;obtain ⟨hsz,_⟩:=zhj hun;have hself:(listed.setIfInBounds 13 true).getD 13 false=true:=by simp [Array.getD,hsz]
   have hcs:=hI.cs;simp only [hno,Bool.false_eq_true,if_false] at hcs;refine zat rm_xc rfl rfl (by decide) rfl Try.func21 (by kernel_rfl) (by kernel_rfl) ?_;unfold A4;simp only [t0,t1,t2];walk_nrm;refine zuq hcs.ns.wt ho hcs.sw hcs.cnt hn fun ow4 w4 v G4 L4 hcnt hrow hnew=>?_;rw [Frame.finish_at];walk_nrm;rw [← t0,← t1,← t2];have hns:=hcs.stepC G4 L4 hcnt;have hk:∀ b,b < w3.heap.size→mk sb oz3 b = .out→ow3 b = .out→(mk sb oz3 b = .out∧ow4 b = .out)∧w4.heap[b]?=w3.heap[b]?:=fun b hb h1 h2=>⟨⟨h1,(L4.same b hb (mk_out.1 h1).1 h2).1⟩,(L4.same b hb (mk_out.1 h1).1 h2).2⟩;refine hnext (A4 (upd x 54 (zdp (zbi s o).1 v))) w4 ⟨_,oz3,ow4,rfl,fun j hj=>by rw [upd_ne _ _ (by omega)];exact hI.xs j hj,hI.tab.put (i:=13) (.inr rfl),?_,fun q=>by rw [upd_ne _ _ (by decide)];exact (hI.c5 (by rwa [zaf (by decide)] at q)).keep hk,fun _=>⟨v,upd_same _ _ _,hrow.row,fun b hb=>⟨mk_out.2 ⟨(hnew b hb).1,(hnew b hb).2.elim (fun q=>hI.cs.ns.z.new b q) fun q=>(hI.cs.ns.dis b).resolve_right q⟩,hrow.mine b hb⟩⟩,fun q=>?_,fun q=>?_,fun q1 q2=>?_⟩
   ·simp only [hself,if_true];rw [zaf (by decide)];exact hns
   ·rw [upd_ne _ _ (by decide)];exact (hI.c14 (by rwa [zaf (by decide)] at q)).imp fun K ⟨e,e1,e2⟩=>⟨e,e1,e2.keep hk⟩
   ·rw [upd_ne _ _ (by decide)];exact (hI.c15 (by rwa [zaf (by decide)] at q)).imp fun K ⟨e,e1,e2⟩=>⟨e,e1,e2.keep hk⟩
   ·rw [upd_ne _ _ (by decide),upd_ne _ _ (by decide)];exact hI.c67 (by rwa [zaf (by decide)] at q1) (by rwa [zaf (by decide)] at q2)
  ·clear x0 x4 x5 x6 x7 q0 q1 q2 q3;have hsbl:=hI.cs.lt;refine zv0 (rest:=r) (by decide) [14] [_] rfl (zai (by kernel_rfl)) fun wp hp=>?_;have hsz:wp.heap.size=w3.heap.size:=by rw [hp.heap]
   replace hp:=yay hp;replace hsz:=yay hsz;unfold A4
   go_wp2_with fail
   refine za4 rfl fun w4 h4=>?_;have L4:LeftW w3 w4:=((LeftW.of_sim hp.out.heap hp.out.outs).alloc _).sim h4;have hnew:w4.heap[w3.heap.size]?=some z0h:=by rw [h4.heap,← hsz.out];exact heap_alloc_new _ _
   rw [hsz.out];have hk:∀ b,b < w3.heap.size→mk sb oz3 b = .out→ow3 b = .out→(mk sb oz3 b = .out∧ow3 b = .out)∧w4.heap[b]?=w3.heap[b]?:=fun b hb h1 h2=>⟨⟨h1,h2⟩,L4.same b hb⟩;have hns:=hI.cs.left L4;clear h4 hp hsz wp;refine hnext (A4 (upd x 8 (.pointer (some ⟨w3.heap.size,0,none⟩)))) w4 ⟨_,oz3,ow3,rfl,fun j hj=>by rw [upd_ne _ _ (by omega)];exact hI.xs j hj,fun j u hj hl=>?_,?_,fun q=>by rw [upd_ne _ _ (by decide)];exact (hI.c5 (by rwa [zaf (by decide)] at q)).keep hk,fun q=>by rw [upd_ne _ _ (by decide)];exact (hI.c13 (by rwa [zaf (by decide)] at q)).keep hk,fun _=>⟨w3.heap.size,upd_same _ _ _,Nat.le_trans hI.cs.lo (by omega),mk_out.2 ⟨by omega,hI.cs.ns.z.new _ (yax _)⟩,hI.cs.ns.wt.new _ (yax _),hnew⟩,fun q=>by rw [upd_ne _ _ (by decide)];exact (hI.c15 (by rwa [zaf (by decide)] at q)).imp fun K ⟨e,e1,e2⟩=>⟨e,e1,e2.keep hk⟩,fun q1 q2=>?_⟩
   ·have hji:j≠14:=fun z=>by rw [z] at hj;cases hj
    rw [zaf hji] at hl;rw [upd_ne _ _ (by omega)];exact hI.tab j u hj hl
   ·rw [zaf (by decide),zaf (by decide)];exact hns
   ·obtain ⟨K,e,_,hb⟩:=hI.c15 (by rwa [zaf (by decide)] at q2);have hlt:=(yah.1 hb.at_).1;intro q;rw [upd_same,upd_ne _ _ (by decide),e] at q;simp only [Value.pointer.injEq,Option.some.injEq,Addr.mk.injEq] at q;omega
  ·clear x0 x4 x5 x6 x7 q0 q1 q2 q3;have hsbl:=hI.cs.lt;refine zv0 (rest:=r) (by decide) [15] [_] rfl (zai (by kernel_rfl)) fun wp hp=>?_;have hsz:wp.heap.size=w3.heap.size:=by rw [hp.heap]
   replace hp:=yay hp;replace hsz:=yay hsz;unfold A4
   go_wp2_with fail
   refine za4 rfl fun w4 h4=>?_;have L4:LeftW w3 w4:=((LeftW.of_sim hp.out.heap hp.out.outs).alloc _).sim h4;have hnew:w4.heap[w3.heap.size]?=some z0h:=by rw [h4.heap,← hsz.out];exact heap_alloc_new _ _
   rw [hsz.out];have hk:∀ b,b < w3.heap.size→mk sb oz3 b = .out→ow3 b = .out→(mk sb oz3 b = .out∧ow3 b = .out)∧w4.heap[b]?=w3.heap[b]?:=fun b hb h1 h2=>⟨⟨h1,h2⟩,L4.same b hb⟩;have hns:=hI.cs.left L4;clear h4 hp hsz wp;refine hnext (A4 (upd x 9 (.pointer (some ⟨w3.heap.size,0,none⟩)))) w4 ⟨_,oz3,ow3,rfl,fun j hj=>by rw [upd_ne _ _ (by omega)];exact hI.xs j hj,fun j u hj hl=>?_,?_,fun q=>by rw [upd_ne _ _ (by decide)];exact (hI.c5 (by rwa [zaf (by decide)] at q)).keep hk,fun q=>by rw [upd_ne _ _ (by decide)];exact (hI.c13 (by rwa [zaf (by decide)] at q)).keep hk,fun q=>by rw [upd_ne _ _ (by decide)];exact (hI.c14 (by rwa [zaf (by decide)] at q)).imp fun K ⟨e,e1,e2⟩=>⟨e,e1,e2.keep hk⟩,fun _=>⟨w3.heap.size,upd_same _ _ _,Nat.le_trans hI.cs.lo (by omega),mk_out.2 ⟨by omega,hI.cs.ns.z.new _ (yax _)⟩,hI.cs.ns.wt.new _ (yax _),hnew⟩,fun q1 q2=>?_⟩
   ·have hji:j≠15:=fun z=>by rw [z] at hj;cases hj
    rw [zaf hji] at hl;rw [upd_ne _ _ (by omega)];exact hI.tab j u hj hl
   ·rw [zaf (by decide),zaf (by decide)];exact hns
   ·obtain ⟨K,e,_,hb⟩:=hI.c14 (by rwa [zaf (by decide)] at q1);have hlt:=(yah.1 hb.at_).1;intro q;rw [upd_same,upd_ne _ _ (by decide),e] at q;simp only [Value.pointer.injEq,Option.some.injEq,Addr.mk.injEq] at q;omega
end
theorem prgS:Prg true Try.prog (·∈[22,23,24,26,83,84,87]):=zju zah (by kernel_rfl) (by kernel_rfl) (by kernel_rfl)
structure RowA (oz ow:Nat→Owner) (w:World) (v:Value) (l:List Int):Prop where
 row:w.ownsRow 0 2 1 v l.length (zaw l)
 mine:∀ b,v.ownBlock=some b→oz b = .out∧ow b = .out
theorem RowA.keep {oz ow oz' ow':Nat→Owner} {w w':World} {v:Value} {l:List Int} (h:RowA oz ow w v l) (hk:∀ b,b < w.heap.size→oz b = .out→ow b = .out→(oz' b = .out∧ow' b = .out)∧w'.heap[b]?=w.heap[b]?):RowA oz' ow' w' v l :=
 ⟨zar h.row fun g ob hg hh=>by
  obtain ⟨h1,h2⟩:=h.mine g hg;exact (hk g (zbc h.row hg).2 h1 h2).2.trans hh,fun b hg=>by
  obtain ⟨h1,h2⟩:=h.mine b hg;exact (hk b (zbc h.row hg).2 h1 h2).1⟩
theorem znq {oz ow:Nat→Owner} {w:World} {v:Value} {l:List Int} {N:Nat} (h:w.ownsRow N 2 1 v l.length (zaw l)) (hz:∀ b,N≤b→oz b = .out) (hw:∀ b,N≤b→ow b = .out):RowA oz ow w v l :=
 ⟨⟨h.1,h.2.imp id fun ⟨g,cap,cur,e,q1,q2⟩=>⟨g,cap,cur,e,Nat.zero_le _,q2⟩⟩,fun b hb=>⟨hz b (zbc h hb).1,hw b (zbc h hb).1⟩⟩
theorem zev {w w':World} (h:Below w.heap.size w w'):LeftW w w':=⟨fun b hb=>h.block b hb,h.size,h.os,h.output⟩
theorem zig {w w':World} (τ:Nat→Question→Nat) (d:Nat) (h:LeftW w w'):LeftW w (re τ d w'):=⟨h.same,h.size,h.outs⟩
theorem zif {w w':World} {τ:Nat→Question→Nat} {d:Nat} (h:LeftW (re τ d w) w'):LeftW w w':=⟨h.same,h.size,h.outs⟩
section
variable {Z:Machine→Trace→Prop} {c:Frame} {cs:List Frame} {w:World}
theorem zto {a b:Value} {l:List Ans} (hll:∀ r∈l,r.l.length≤1000000000) (ha:AnsIn w a l) (hb:AnsIn w b l) (hl:l.length≤1000000000) (h:∀ w',LeftW w w'→RM Try.prog Z (G (c.finish (.bool true)) cs) w'):RM Try.prog Z (G (Frame.enter Try.prog 22 #[a,b] .normal) (c::cs)) w :=
 zh7 prgS (f:=22) (by simp) (R:=fun v w'=>v = .bool true∧LeftW w w') (fun v w' τ d hx=>⟨hx.1,zig τ d hx.2⟩)
  (fun τ d=>(ztn (w:=re τ d w) hll (AnsIn.keep (w:=w) (w':=re τ d w) (fun _ _=>rfl) ha) (AnsIn.keep (w:=w) (w':=re τ d w) (fun _ _=>rfl) hb) hl).mono fun e w' ⟨he,hb⟩=>⟨_,he,rfl,zif (zev hb)⟩)
  fun v w' ⟨e,L⟩=>by subst e;exact h w' L
theorem zjb {a b:Value} {l:List Int} (ha:IntsAt w a l) (hb:IntsAt w b l) (hl:l.length≤1000000000) (h:∀ w',LeftW w w'→RM Try.prog Z (G (c.finish (.bool true)) cs) w'):RM Try.prog Z (G (Frame.enter Try.prog 23 #[a,b] .normal) (c::cs)) w :=
 zh7 prgS (f:=23) (by simp) (R:=fun v w'=>v = .bool true∧LeftW w w') (fun v w' τ d hx=>⟨hx.1,zig τ d hx.2⟩)
  (fun τ d=>(zmi (w:=re τ d w) (IntsAt.mono (w:=w) (w':=re τ d w) ha (fun _ _=>rfl)) (IntsAt.mono (w:=w) (w':=re τ d w) hb (fun _ _=>rfl)) hl).mono fun e w' ⟨he,hb⟩=>⟨_,he,rfl,zif (zev hb)⟩)
  fun v w' ⟨e,L⟩=>by subst e;exact h w' L
theorem zop {v:Value} {l:List Int} (hv:IntsAt w v l) (hl:l.length≤1000000) (h:∀ v' w',LeftW w w'→w'.ownsRow w.heap.size 2 1 v' l.length (zaw l)→RM Try.prog Z (G (c.finish v') cs) w'):RM Try.prog Z (G (Frame.enter Try.prog 24 #[v] .normal) (c::cs)) w :=
 zh7 prgS (f:=24) (by simp) (R:=fun v w'=>w'.ownsRow w.heap.size 2 1 v l.length (zaw l)∧LeftW w w') (fun v w' τ d hx=>⟨hx.1,zig τ d hx.2⟩)
  (fun τ d=>(zoo (re τ d w) (IntsAt.mono (w:=w) (w':=re τ d w) hv (fun _ _=>rfl)) hl).mono fun e w' ⟨v',he,hr,hb⟩=>⟨v',he,hr,zif (zev hb)⟩)
  fun v' w' ⟨hr,L⟩=>h v' w' L hr
theorem zpe {gb:Nat} {s:GateS} {own:Nat→Owner} (G0:GW gb s own w) (h:∀ v' w',LeftW w w'→w'.ownsRow w.heap.size 2 1 v' (zdq s.num 64).length (zaw (zdq s.num 64))→RM Try.prog Z (G (c.finish v') cs) w'):RM Try.prog Z (G (Frame.enter Try.prog 26 #[gpv gb] .normal) (c::cs)) w:=by
 obtain ⟨p,cc,c1,c2,c3,c4,c5⟩:=G0.rep.cell;have hlt:=(yah.1 c1).1;exact zh7 prgS (f:=26) (by simp) (R:=fun v w'=>w'.ownsRow w.heap.size 2 1 v (zdq s.num 64).length (zaw (zdq s.num 64))∧LeftW w w') (fun v w' τ d hx=>⟨hx.1,zig τ d hx.2⟩)
  (fun τ d=>(zjw (num:=s.num) (re τ d w) hlt fun j hj=>(zac (w:=re τ d w) c1 _).trans (c4 j hj)).mono fun e w' ⟨v',he,hr,hb⟩=>⟨v',he,hr,zif (zev hb)⟩)
  fun v' w' ⟨hr,L⟩=>h v' w' L hr
end
noncomputable def rest17:Code:=cB (cB (cB body3))
theorem zi9 {w:World} {v:Value} {l:List Int} (h:IntsAt w v l):∃ a c,v = .slice a l.length c:=by obtain ⟨a,c,e,_⟩:=h;exact ⟨a,c,e⟩
theorem hk_left {oz ow:Nat→Owner} {w w':World} (L:LeftW w w'):∀ b,b < w.heap.size→oz b = .out→ow b = .out→(oz b = .out∧ow b = .out)∧w'.heap[b]?=w.heap[b]?:=fun b hb h1 h2=>⟨⟨h1,h2⟩,L.same b hb⟩
theorem hk_Z {oz ow o2:Nat→Owner} {w w':World} (L:Left oz o2 w w'):∀ b,b < w.heap.size→oz b = .out→ow b = .out→(o2 b = .out∧ow b = .out)∧w'.heap[b]?=w.heap[b]?:=fun b hb h1 h2=>⟨⟨(L.same b hb h1).1,h2⟩,(L.same b hb h1).2⟩
theorem hk_W {oz ow o2:Nat→Owner} {w w':World} (L:Left ow o2 w w'):∀ b,b < w.heap.size→oz b = .out→ow b = .out→(oz b = .out∧o2 b = .out)∧w'.heap[b]?=w.heap[b]?:=fun b hb h1 h2=>⟨⟨h1,(L.same b hb h2).1⟩,(L.same b hb h2).2⟩
section
variable {Z:Machine→Trace→Prop} {c:Frame} {cs:List Frame} {w0 w:World} {gz gw N K K':Nat} {s:GateS} {o:OpD} {r:Ans} {u1 u2:Value} {z:Nat→Value} {oz ow:Nat→Owner} {R:List Item}
end
theorem zp5 {w:World} {M:Nat} {r r':Ans} {u u':Value} {t:TypeId} (h:w.heap[M]?=some (.cells #[.bool r.ok,.int .i64 r.n,u,.bool r'.ok,.int .i64 r'.n,u'] t (0,0))) (hi:IntsAt w u r.l) (hi':IntsAt w u' r'.l):AnsIn w (.slice (some ⟨M,0,none⟩) 2 2) [r,r'] :=
 ⟨_,_,rfl,fun _=>⟨M,0,rfl,fun j x hj=>by
  rcases j with _|_|j
  ·obtain rfl:r=x:=by simpa using hj
   exact ⟨zac h 0,zac h 1,u,zac h 2,hi⟩
  ·obtain rfl:r'=x:=by simpa using hj
   exact ⟨zac h 3,zac h 4,u',zac h 5,hi'⟩
  ·simp at hj⟩⟩
theorem z0n {P:Program} {Z:Machine→Trace→Prop} {b:Frame} {a:Act} {k:List Item} {cs:List Frame} {w w2:World} {ops:Array Oper} {i:Nat} {rest:List Nat} {o:Oper} {v:Value} (ho:ops[i]?=some o) (hw:Region.wanted o (yielded ops a.tmps)=true) (hk:b.kind ≠ .early) (hc:zc8 true P (fun _=>False) o)
  (hr:(execOp a.eval o).run P w = .ok (.value v) w2) (hdr:w2.drawn=w.drawn) (h:∀ w1,Sim w1 w2→RM P Z (G (b.at (a.put o.dst v) (.inRegion ops rest::k)) cs) w1):RM P Z (G (b.at a (.inRegion ops (i::rest)::k)) cs) w :=
 x_op rm_xc (zbt w) ho hw hk hc (n := .value v) (.inl rfl) (by rw [zcy];exact hr) hdr fun d w1 e _ _=>h w1 (by rw [zcy] at e;subst e;exact ⟨w.tape,d,rfl⟩)
theorem Tab.at {tv:Nat→Option Value} {d j s:Nat} {v:Value} {listed:Array Bool} {x:Nat→Value} (h:Tab tv d listed x) (hl:listed.getD j false=true) (ht:tv j=some v) (hs:d+j=s):x s=v:=hs▸h j v ht hl
def tv11 (N ba oa ca bb ob ln cap jj:Nat) (r:Ans) (u1 u2 v3:Value):Nat→Option Value
 | 0=>some (zdp r u1)|1=>some (zdp r u2)|3=>some (.pointer (some ⟨N,0,none⟩))|4=>some (.slice (some ⟨ba,oa,none⟩) 1 ca)|5=>some (.pointer (some ⟨ba,oa,none⟩))|6=>some (.slice (some ⟨bb,ob,none⟩) ln cap)|7=>some (.int .i64 jj)|8=>some (.pointer (some ⟨bb,ob+jj * 3,none⟩))|9=>some (zdp r v3)
 | 10=>some (.pointer (some ⟨N,0,none⟩))|11=>some (.slice (some ⟨ba,oa,none⟩) 1 ca)|12=>some (.pointer (some ⟨ba,oa,none⟩))|13=>some (.slice (some ⟨bb,ob,none⟩) ln cap)|14=>some (.int .i64 jj)|15=>some (.pointer (some ⟨bb,ob+jj * 3,none⟩))|16=>some (zdp r v3)
 | _=>none
structure I11 (W:World) (tv:Nat→Option Value) (r:Ans) (z:Nat→Value) (listed:Array Bool) (x:Nat→Value) (w:World):Prop where
 xs:∀ j,j < 10→x j=z j
 tab:Tab tv 55 listed x
 low:LeftW W w
 a:listed.getD 2 false=true→AnsIn w (x 57) [r,r]
 b:listed.getD 17 false=true→AnsIn w (x 72) [r,r]
 c:listed.getD 18 false=true→x 73 = .bool true
 d:listed.getD 19 false=true→x 74 = .bool false
section
variable {W w w':World} {tv:Nat→Option Value} {r:Ans} {z x:Nat→Value} {listed:Array Bool}
theorem I11.put (h:I11 W tv r z listed x w) {i:Nat} {u:Value} (hi:i < 17∧i≠2) (ht:tv i=some u):I11 W tv r z (listed.setIfInBounds i true) (upd x (55+i) u) w :=
 ⟨fun j hj=>by rw [upd_ne _ _ (by omega)];exact h.xs j hj,h.tab.put (.inl ht),h.low,
  fun q=>by rw [upd_ne _ _ (by omega)];exact h.a (by rwa [zaf (by omega)] at q),fun q=>by rw [upd_ne _ _ (by omega)];exact h.b (by rwa [zaf (by omega)] at q),
  fun q=>by rw [upd_ne _ _ (by omega)];exact h.c (by rwa [zaf (by omega)] at q),fun q=>by rw [upd_ne _ _ (by omega)];exact h.d (by rwa [zaf (by omega)] at q)⟩
theorem I11.grow (h:I11 W tv r z listed x w) (l:LeftW w w'):I11 W tv r z listed x w' :=
 ⟨h.xs,h.tab,h.low.trans l,fun q=>(h.a q).keep l.same,fun q=>(h.b q).keep l.same,h.c,h.d⟩
theorem I11.put' (h:I11 W tv r z listed x w) {i:Nat} {u:Value} (hi:i=2∨i=17∨i=18∨i=19) (hn:tv i=none) (ha:i=2∨i=17→AnsIn w u [r,r]) (hc:i=18→u = .bool true) (hd:i=19→u = .bool false):I11 W tv r z (listed.setIfInBounds i true) (upd x (55+i) u) w:=by
 refine ⟨fun j hj=>by rw [upd_ne _ _ (by omega)];exact h.xs j hj,h.tab.put (.inr hn),h.low,fun q=>?_,fun q=>?_,fun q=>?_,fun q=>?_⟩
 ·by_cases e:i=2
  ·subst e;rw [upd_same];exact ha (.inl rfl)
  ·rw [upd_ne _ _ (by omega)];exact h.a (by rwa [zaf (by omega)] at q)
 ·by_cases e:i=17
  ·subst e;rw [upd_same];exact ha (.inr rfl)
  ·rw [upd_ne _ _ (by omega)];exact h.b (by rwa [zaf (by omega)] at q)
 ·by_cases e:i=18
  ·subst e;rw [upd_same];exact hc rfl
  ·rw [upd_ne _ _ (by omega)];exact h.c (by rwa [zaf (by omega)] at q)
 ·by_cases e:i=19
  ·subst e;rw [upd_same];exact hd rfl
  ·rw [upd_ne _ _ (by omega)];exact h.d (by rwa [zaf (by omega)] at q)
end
section
variable {Z:Machine→Trace→Prop} {c:Frame} {cs:List Frame} {W:World} {N K K' ba oa ca bb ob ln cap jj:Nat} {r:Ans} {u1 u2 v3 vo vs st:Value} {z:Nat→Value} {R:List Item}
theorem cmp11 (z3:z 3 = .pointer (some ⟨N,0,none⟩)) (z7:z 7 = .int .i64 jj) (z8:z 8 = .pointer (some ⟨K,0,none⟩)) (z9:z 9 = .pointer (some ⟨K',0,none⟩)) (hjl:jj < ln)
  (hN:W.cell? ⟨N,0,none⟩=some (.slice (some ⟨ba,oa,none⟩) 1 ca)) (hA:W.cell? ⟨ba,oa,none⟩=some (.slice (some ⟨bb,ob,none⟩) ln cap))
  (hb0:W.cell? ⟨bb,ob+jj * 3,none⟩=some (.bool r.ok)) (hb1:W.cell? ⟨bb,ob+jj * 3+1,none⟩=some (.int .i64 r.n)) (hb2:W.cell? ⟨bb,ob+jj * 3+2,none⟩=some v3) (i3:IntsAt W v3 r.l)
  (hK:W.heap[K]?=some (.cells #[.bool r.ok,.int .i64 r.n,u1] 42 (0,0))) (hK':W.heap[K']?=some (.cells #[.bool r.ok,.int .i64 r.n,u2] 42 (0,0))) (i1:IntsAt W u1 r.l) (i2:IntsAt W u2 r.l) (hr:r.l.length≤1000000000)
  (hret:∀ x w',(∀ j,j < 10→x j=z j)→LeftW W w'→RM Try.prog Z (G ((base 4).at (A4 x) R) cs) w') :
  RM Try.prog Z (G ((base 4).at (A4 z) (.code (cB in10)::R)) cs) W:=by
 have hr':=yay fun (x:Nat→Value) (hx:∀ j,j < 10→x j=z j) w' l=>hret x w' hx l;clear hret;have k0:=zac hK 0;have k1:=zac hK 1;have k2:=zac hK 2;have k3:=zac hK' 0;have k4:=zac hK' 1;have k5:=zac hK' 2;simp only [yac,yaa,yab] at k0 k1 k2 k3 k4 k5;clear hK hK';have hlt':(jj:Int) < (ln:Int):=by omega
 have hj0:(0:Int)≤(jj:Int):=by omega
 have j1:=i1;have j2:=i2;have j3:=i3;obtain ⟨a1,g1,rfl⟩:=zi9 i1;obtain ⟨a2,g2,rfl⟩:=zi9 i2;obtain ⟨a3,g3,rfl⟩:=zi9 i3;obtain ⟨nl,hnl⟩:∃ n,r.l.length=n:=⟨_,rfl⟩;rw [hnl] at j1 j2 j3 k2 k5 hb2 hr;clear i1 i2 i3;rw [show cB in10=Code.seq (Code.region _ _ _) _ from rfl]
 refine zae rm_xc fun R0 hR0=>?_;refine zr3 rfl (fun listed a w=>∃ x,a=A4 x∧I11 W (tv11 N ba oa ca bb ob ln cap jj r (.slice a1 nl g1) (.slice a2 nl g2) (.slice a3 nl g3)) r z listed x w) ?i0 ?ie ?ist
 case i0=>exact ⟨z,rfl,fun _ _=>rfl,.zero,.refl,zn9x,zn9x,zn9x,zn9x⟩
 case ie =>
  rintro listed a w hsz hrd ⟨x,rfl,hI⟩;have hall:=zjn (zwm (by kernel_rfl)) hsz hrd;have h74:=hI.d (hall 19 (by decide));refine zad rm_xc ?_;obtain rfl:=hR0.out;refine zam rm_xc (t:=false) (by show x 74=_;exact h74) ?_;refine zbm rm_xc ?_;exact hr'.out x hI.xs w hI.low
 case ist =>
  rintro listed i hsz hir a w3 rr ⟨x,rfl,hI⟩ hnext;obtain ⟨hun,op,hop,hdep⟩:=mem_ready.1 hir;have hi20:i < 20:=by
   have:=(yah.1 hop).1
   simpa using this
  have x3:=(hI.xs 3 (by decide)).trans z3;have x7:=(hI.xs 7 (by decide)).trans z7;have x8:=(hI.xs 8 (by decide)).trans z8;have x9:=(hI.xs 9 (by decide)).trans z9;have cc:Hid (∀ (a:Addr) v,W.cell? a=some v→∀ wp:World,Sim wp w3→wp.cell? a=some v):=yay fun a v q wp hp=>by
   refine (World.cell?_of_block (w:=W) ?_).trans q;show wp.heap[a.block]?=W.heap[a.block]?;rw [hp.heap];exact hI.low.same _ (World.block_lt_of_cell? W _ q)
  replace k0:=yay k0;replace k1:=yay k1;replace k2:=yay k2;replace k3:=yay k3;replace k4:=yay k4;replace k5:=yay k5;replace hN:=yay hN;replace hA:=yay hA;replace hb0:=yay hb0;replace hb1:=yay hb1;replace hb2:=yay hb2;have hcase:i=0∨i=1∨i=2∨i=3∨i=4∨i=5∨i=6∨i=7∨i=8∨i=9∨i=10∨i=11∨i=12∨i=13∨i=14∨i=15∨i=16∨i=17∨i=18∨i=19:=by omega
  rcases hcase with rfl|rfl|rfl|rfl|rfl|rfl|rfl|rfl|rfl|rfl|rfl|rfl|rfl|rfl|rfl|rfl|rfl|rfl|rfl|rfl
  ·refine za0 rfl rfl (by decide) (zai (l:=[_]) (by kernel_rfl) _ (yaj.2 rfl)) (v:=zdp r (.slice a1 nl g1)) (fun wp hp=>by
    have qk0:=cc.out _ _ k0.out wp hp;have qk1:=cc.out _ _ k1.out wp hp;have qk2:=cc.out _ _ k2.out wp hp;unfold A4
    try unfold gpv opV zdp at *
    go_simp<;>rfl) ?_
   exact hnext _ w3 ⟨upd x 55 _,rfl,hI.put (by decide) rfl⟩
  ·refine za0 rfl rfl (by decide) (zai (l:=[_]) (by kernel_rfl) _ (yaj.2 rfl)) (v:=zdp r (.slice a2 nl g2)) (fun wp hp=>by
    have qk3:=cc.out _ _ k3.out wp hp;have qk4:=cc.out _ _ k4.out wp hp;have qk5:=cc.out _ _ k5.out wp hp;unfold A4
    try unfold gpv opV zdp at *
    go_simp<;>rfl) ?_
   exact hnext _ w3 ⟨upd x 56 _,rfl,hI.put (by decide) rfl⟩
  ·have hop':=yaw hop;subst hop';have t0:=hI.tab.at (s:=55) (hdep ⟨0,.data⟩ (by simp) rfl) rfl rfl;have t1:=hI.tab.at (s:=56) (hdep ⟨1,.data⟩ (by simp) rfl) rfl rfl;refine z0n rfl rfl (by decide) (zai (l:=[_]) (by kernel_rfl) _ (yaj.2 rfl)) (v := .slice (some ⟨w3.heap.size,0,none⟩) 2 2) (w2:=w3.alloc (.cells #[.bool r.ok,.int .i64 r.n,.slice a1 nl g1,.bool r.ok,.int .i64 r.n,.slice a2 nl g2] 42)) (by
    unfold A4;unfold zdp at *
    go_simp<;>rfl) rfl fun w4 h4=>?_
   have L4:LeftW w3 w4:=(LeftW.refl.alloc _).sim h4;have hnew:w4.heap[w3.heap.size]?=some (.cells #[.bool r.ok,.int .i64 r.n,.slice a1 nl g1,.bool r.ok,.int .i64 r.n,.slice a2 nl g2] 42 (0,0)):=by rw [h4.heap];exact heap_alloc_new _ _
   have hL:=hI.low.trans L4;have A:=zp5 (r:=r) (r':=r) hnew (by rw [← hnl];exact (hnl▸j1).mono hL.same) (by rw [← hnl];exact (hnl▸j2).mono hL.same);refine hnext (A4 (upd x 57 (.slice (some ⟨w3.heap.size,0,none⟩) 2 2))) w4 ⟨_,rfl,(hI.grow L4).put' (i:=2) (by omega) rfl (fun _=>A) (fun z=>by omega) (fun z=>by omega)⟩
  ·refine za0 rfl rfl (by decide) (zai (l:=[_]) (by kernel_rfl) _ (yaj.2 rfl)) (v := .pointer (some ⟨N,0,none⟩)) (fun wp hp=>by
    unfold A4
    try unfold gpv opV zdp at *
    go_simp<;>rfl) ?_
   exact hnext _ w3 ⟨upd x 58 _,rfl,hI.put (by decide) rfl⟩
  ·have hop':=yaw hop;subst hop';have t3:=hI.tab.at (s:=58) (hdep ⟨3,.data⟩ (by simp) rfl) rfl rfl;refine za0 rfl rfl (by decide) (zai (l:=[_]) (by kernel_rfl) _ (yaj.2 rfl)) (v := .slice (some ⟨ba,oa,none⟩) 1 ca) (fun wp hp=>by
    have qhN:=cc.out _ _ hN.out wp hp;unfold A4
    try unfold gpv opV zdp at *
    go_simp<;>rfl) ?_
   exact hnext _ w3 ⟨upd x 59 _,rfl,hI.put (by decide) rfl⟩
  ·have hop':=yaw hop;subst hop';have t4:=hI.tab.at (s:=59) (hdep ⟨4,.data⟩ (by simp) rfl) rfl rfl;refine za0 rfl rfl (by decide) (zai (l:=[_]) (by kernel_rfl) _ (yaj.2 rfl)) (v := .pointer (some ⟨ba,oa,none⟩)) (fun wp hp=>by
    unfold A4
    try unfold gpv opV zdp at *
    go_simp<;>rfl) ?_
   exact hnext _ w3 ⟨upd x 60 _,rfl,hI.put (by decide) rfl⟩
  ·have hop':=yaw hop;subst hop';have t5:=hI.tab.at (s:=60) (hdep ⟨5,.data⟩ (by simp) rfl) rfl rfl;refine za0 rfl rfl (by decide) (zai (l:=[_]) (by kernel_rfl) _ (yaj.2 rfl)) (v := .slice (some ⟨bb,ob,none⟩) ln cap) (fun wp hp=>by
    have qhA:=cc.out _ _ hA.out wp hp;unfold A4
    try unfold gpv opV zdp at *
    go_simp<;>rfl) ?_
   exact hnext _ w3 ⟨upd x 61 _,rfl,hI.put (by decide) rfl⟩
  ·refine za0 rfl rfl (by decide) (zai (l:=[_]) (by kernel_rfl) _ (yaj.2 rfl)) (v := .int .i64 jj) (fun wp hp=>by
    unfold A4
    try unfold gpv opV zdp at *
    go_simp<;>rfl) ?_
   exact hnext _ w3 ⟨upd x 62 _,rfl,hI.put (by decide) rfl⟩
  ·have hop':=yaw hop;subst hop';have t6:=hI.tab.at (s:=61) (hdep ⟨6,.data⟩ (by simp) rfl) rfl rfl;have t7:=hI.tab.at (s:=62) (hdep ⟨7,.data⟩ (by simp) rfl) rfl rfl;refine za0 rfl rfl (by decide) (zai (l:=[_]) (by kernel_rfl) _ (yaj.2 rfl)) (v := .pointer (some ⟨bb,ob+jj * 3,none⟩)) (fun wp hp=>by
    unfold A4
    try unfold gpv opV zdp at *
    go_simp<;>rfl) ?_
   exact hnext _ w3 ⟨upd x 63 _,rfl,hI.put (by decide) rfl⟩
  ·have hop':=yaw hop;subst hop';have t8:=hI.tab.at (s:=63) (hdep ⟨8,.data⟩ (by simp) rfl) rfl rfl;refine za0 rfl rfl (by decide) (zai (l:=[_]) (by kernel_rfl) _ (yaj.2 rfl)) (v:=zdp r (.slice a3 nl g3)) (fun wp hp=>by
    have qhb0:=cc.out _ _ hb0.out wp hp;have qhb1:=cc.out _ _ hb1.out wp hp;have qhb2:=cc.out _ _ hb2.out wp hp;unfold A4
    try unfold gpv opV zdp at *
    go_simp<;>rfl) ?_
   exact hnext _ w3 ⟨upd x 64 _,rfl,hI.put (by decide) rfl⟩
  ·refine za0 rfl rfl (by decide) (zai (l:=[_]) (by kernel_rfl) _ (yaj.2 rfl)) (v := .pointer (some ⟨N,0,none⟩)) (fun wp hp=>by
    unfold A4
    try unfold gpv opV zdp at *
    go_simp<;>rfl) ?_
   exact hnext _ w3 ⟨upd x 65 _,rfl,hI.put (by decide) rfl⟩
  ·have hop':=yaw hop;subst hop';have t10:=hI.tab.at (s:=65) (hdep ⟨10,.data⟩ (by simp) rfl) rfl rfl;refine za0 rfl rfl (by decide) (zai (l:=[_]) (by kernel_rfl) _ (yaj.2 rfl)) (v := .slice (some ⟨ba,oa,none⟩) 1 ca) (fun wp hp=>by
    have qhN:=cc.out _ _ hN.out wp hp;unfold A4
    try unfold gpv opV zdp at *
    go_simp<;>rfl) ?_
   exact hnext _ w3 ⟨upd x 66 _,rfl,hI.put (by decide) rfl⟩
  ·have hop':=yaw hop;subst hop';have t11:=hI.tab.at (s:=66) (hdep ⟨11,.data⟩ (by simp) rfl) rfl rfl;refine za0 rfl rfl (by decide) (zai (l:=[_]) (by kernel_rfl) _ (yaj.2 rfl)) (v := .pointer (some ⟨ba,oa,none⟩)) (fun wp hp=>by
    unfold A4
    try unfold gpv opV zdp at *
    go_simp<;>rfl) ?_
   exact hnext _ w3 ⟨upd x 67 _,rfl,hI.put (by decide) rfl⟩
  ·have hop':=yaw hop;subst hop';have t12:=hI.tab.at (s:=67) (hdep ⟨12,.data⟩ (by simp) rfl) rfl rfl;refine za0 rfl rfl (by decide) (zai (l:=[_]) (by kernel_rfl) _ (yaj.2 rfl)) (v := .slice (some ⟨bb,ob,none⟩) ln cap) (fun wp hp=>by
    have qhA:=cc.out _ _ hA.out wp hp;unfold A4
    try unfold gpv opV zdp at *
    go_simp<;>rfl) ?_
   exact hnext _ w3 ⟨upd x 68 _,rfl,hI.put (by decide) rfl⟩
  ·refine za0 rfl rfl (by decide) (zai (l:=[_]) (by kernel_rfl) _ (yaj.2 rfl)) (v := .int .i64 jj) (fun wp hp=>by
    unfold A4
    try unfold gpv opV zdp at *
    go_simp<;>rfl) ?_
   exact hnext _ w3 ⟨upd x 69 _,rfl,hI.put (by decide) rfl⟩
  ·have hop':=yaw hop;subst hop';have t13:=hI.tab.at (s:=68) (hdep ⟨13,.data⟩ (by simp) rfl) rfl rfl;have t14:=hI.tab.at (s:=69) (hdep ⟨14,.data⟩ (by simp) rfl) rfl rfl;refine za0 rfl rfl (by decide) (zai (l:=[_]) (by kernel_rfl) _ (yaj.2 rfl)) (v := .pointer (some ⟨bb,ob+jj * 3,none⟩)) (fun wp hp=>by
    unfold A4
    try unfold gpv opV zdp at *
    go_simp<;>rfl) ?_
   exact hnext _ w3 ⟨upd x 70 _,rfl,hI.put (by decide) rfl⟩
  ·have hop':=yaw hop;subst hop';have t15:=hI.tab.at (s:=70) (hdep ⟨15,.data⟩ (by simp) rfl) rfl rfl;refine za0 rfl rfl (by decide) (zai (l:=[_]) (by kernel_rfl) _ (yaj.2 rfl)) (v:=zdp r (.slice a3 nl g3)) (fun wp hp=>by
    have qhb0:=cc.out _ _ hb0.out wp hp;have qhb1:=cc.out _ _ hb1.out wp hp;have qhb2:=cc.out _ _ hb2.out wp hp;unfold A4
    try unfold gpv opV zdp at *
    go_simp<;>rfl) ?_
   exact hnext _ w3 ⟨upd x 71 _,rfl,hI.put (by decide) rfl⟩
  ·have hop':=yaw hop;subst hop';have t9:=hI.tab.at (s:=64) (hdep ⟨9,.data⟩ (by simp) rfl) rfl rfl;have t16:=hI.tab.at (s:=71) (hdep ⟨16,.data⟩ (by simp) rfl) rfl rfl;refine z0n rfl rfl (by decide) (zai (l:=[_]) (by kernel_rfl) _ (yaj.2 rfl)) (v := .slice (some ⟨w3.heap.size,0,none⟩) 2 2) (w2:=w3.alloc (.cells #[.bool r.ok,.int .i64 r.n,.slice a3 nl g3,.bool r.ok,.int .i64 r.n,.slice a3 nl g3] 42)) (by
    unfold A4;unfold zdp at *
    go_simp<;>rfl) rfl fun w4 h4=>?_
   have L4:LeftW w3 w4:=(LeftW.refl.alloc _).sim h4;have hnew:w4.heap[w3.heap.size]?=some (.cells #[.bool r.ok,.int .i64 r.n,.slice a3 nl g3,.bool r.ok,.int .i64 r.n,.slice a3 nl g3] 42 (0,0)):=by rw [h4.heap];exact heap_alloc_new _ _
   have hL:=hI.low.trans L4;have A:=zp5 (r:=r) (r':=r) hnew (by rw [← hnl];exact (hnl▸j3).mono hL.same) (by rw [← hnl];exact (hnl▸j3).mono hL.same);refine hnext (A4 (upd x 72 (.slice (some ⟨w3.heap.size,0,none⟩) 2 2))) w4 ⟨_,rfl,(hI.grow L4).put' (i:=17) (by omega) rfl (fun _=>A) (fun z=>by omega) (fun z=>by omega)⟩
  ·have hop':=yaw hop;subst hop';have d2:listed.getD 2 false=true:=hdep ⟨2,.data⟩ (by simp) rfl;have d17:listed.getD 17 false=true:=hdep ⟨17,.data⟩ (by simp) rfl;refine zat rm_xc rfl rfl (by decide) rfl Try.func22 (by kernel_rfl) (by kernel_rfl) ?_;walk_nrm;show RM _ _ (G (Frame.enter Try.prog 22 #[x 57,x 72] .normal) _) w3;refine zto (l:=[r,r]) (fun q hq=>by rw [show q=r by simpa using hq,hnl];exact hr) (hI.a d2) (hI.b d17) (by simp) fun w4 L4=>?_
   rw [Frame.finish_at];exact hnext (A4 (upd x 73 (.bool true))) w4 ⟨_,rfl,(hI.grow L4).put' (i:=18) (by omega) rfl (fun z=>by omega) (fun _=>rfl) (fun z=>by omega)⟩
  ·have hop':=yaw hop;subst hop';have d18:listed.getD 18 false=true:=hdep ⟨18,.data⟩ (by simp) rfl;have t18:=hI.c d18;refine za0 rfl rfl (by decide) (zai (l:=[_]) (by kernel_rfl) _ (yaj.2 rfl)) (v := .bool false) (fun wp hp=>by
    unfold A4
    go_simp<;>rfl) ?_
   exact hnext _ w3 ⟨upd x 74 _,rfl,hI.put' (i:=19) (by omega) rfl (fun z=>by omega) (fun z=>by omega) (fun _=>rfl)⟩
end
noncomputable def b4:Code:=cA (cB (cB rest17))
section
variable {Z:Machine→Trace→Prop} {c:Frame} {cs:List Frame} {w0 w:World} {gz gw N K:Nat} {s:GateS} {o:OpD} {z:Nat→Value} {oz ow:Nat→Owner} {R:List Item}
end
section
variable {Z:Machine→Trace→Prop} {c:Frame} {cs:List Frame} {w0 w w':World} {gz gw N K:Nat} {s sz sw:GateS} {o:OpD} {z:Nat→Value} {oz ow:Nat→Owner} {R:List Item}
end
theorem z0i {s:GateS} (hm:MemOk s.mem) (o:OpD):(zbi s o).1.l.length≤1000000000:=by
 have h0:=zbj hm;have ht:∀ v e,(zbq v e).l.length≤1000000000:=fun v e=>by unfold zbq;split<;>simp
 unfold zbi;by_cases k1:o.kind=1
 ·rw [if_pos k1];exact ht _ _
 rw [if_neg k1];by_cases k2:o.kind=2
 ·rw [if_pos k2];exact ht _ _
 rw [if_neg k2];by_cases k3:o.kind=3
 ·rw [if_pos k3];exact ht _ _
 rw [if_neg k3];by_cases k4:o.kind=4
 ·rw [if_pos k4];exact ht _ _
 rw [if_neg k4];by_cases k5:o.kind=5
 ·rw [if_pos k5];show s.mem.length≤_;omega
 rw [if_neg k5];by_cases k6:o.kind=6
 ·rw [if_pos k6];simp
 rw [if_neg k6];by_cases k7:o.kind=7
 ·rw [if_pos k7];simp
 rw [if_neg k7];simp
section
variable {Z:Machine→Trace→Prop} {c:Frame} {cs:List Frame} {w0:World} {gz gw cap:Nat} {ao:Option Addr} {L:List OpD} {R:List Item}
end
end Go.Proofs.Ytofacoojpgkbiaa
namespace Go.Proofs.Ytofacoojpgkbiaa
open Go.Conc Go.RowKit
open Go.ConcN (upd upd_ne upd_same)
set_option maxRecDepth 100000
section
variable {Z:Machine→Trace→Prop} {cs:List Frame} {w:World} {cap:Nat} {ao:Option Addr} {L:List OpD}
end
end Go.Proofs.Ytofacoojpgkbiaa
