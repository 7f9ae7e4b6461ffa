/-
  A part of a proof. No condition of its own.
-/
import Derived.Test.YtofacoojpgkbiaaCNonP21
import Derived.Deep.DeepCutAuto
set_option linter.unusedVariables false
set_option maxHeartbeats 8000000
set_option linter.unusedSimpArgs false
namespace Go.Proofs.Ytofacoojpgkbiaa
open Go.Conc Go.RowKit
set_option maxRecDepth 100000 in
theorem zqj {a b:Value} {l:List Int} {w:World} (ha:IntsAt w a l) (hb:IntsAt w b l) (hl:l.length≤1000000000) :
  Calls Try.prog 23 #[a,b] w fun e w'=>e = .returned (.bool true)∧Below w.heap.size w w':=by
 obtain ⟨pa,ca,rfl,qa⟩:=ha;obtain ⟨pb,cb,rfl,qb⟩:=hb;have H0:=yay (Below.refl w.heap.size w);generalize hN:w.heap.size=N at *;replace hN:=yay hN;go_enter Try.func23,Try.ntmps23
 go_wp2_with fail
 go_loopw [5] (fun iv wr=>∃ j:Nat,j≤l.length∧iv = .int .i64 j∧Hid (Below N w wr)) (fun iv _=>l.length - (intOf iv).toNat)
 case atStart=>exact ⟨0,by omega,rfl,H0⟩
 case round =>
  obtain ⟨j,hj,rfl,HB⟩:=hrel;by_cases hlt:j < l.length
  ·have hlt':(j:Int) < (l.length:Int):=by omega
   have hne:l≠[]:=fun z=>by rw [z] at hlt;simp at hlt
   obtain ⟨ba,oa,rfl,ka⟩:=qa hne;obtain ⟨bb,ob,rfl,kb⟩:=qb hne;have hx:=List.getElem?_eq_getElem hlt;have k1:=ka j _ hx;have k2:=kb j _ hx;generalize l[j]=x at *;have k1:wr.cell? ⟨ba,oa+j,none⟩=some (.int .i64 x):=zbd (w:=w) (fun b hb=>HB.out.block b (by rw [← hN.out];exact hb)) k1;have k2:wr.cell? ⟨bb,ob+j,none⟩=some (.int .i64 x):=zbd (w:=w) (fun b hb=>HB.out.block b (by rw [← hN.out];exact hb)) k2;have e2:IntKind.i64.wrap ((j:Int)+1)=((j+1:Nat):Int):=by rw [IntKind.wrap_i64];omega
   clear ka kb qa qb hx;have HD:=yay HB.out.drew;go_upto_region 6 with fail
   go_region
   all_goals
    go_wp2_with fail
    exact ⟨⟨j+1,by omega,by rw [Int.natCast_add];rfl,HD⟩,by simp [intOf];omega⟩
  ·obtain rfl:j=l.length:=by omega
   go_wp2_with fail
   go_ret
   exact ⟨rfl,HB.out⟩
set_option maxRecDepth 100000 in
theorem zqk {a b:Value} {l:List Ans} {w:World} (hll:∀ r∈l,r.l.length≤1000000000) (ha:AnsIn w a l) (hb:AnsIn w b l) (hl:l.length≤1000000000) :
  Calls Try.prog 22 #[a,b] w fun e w'=>e = .returned (.bool true)∧Below w.heap.size w w':=by
 obtain ⟨pa,ca,rfl,qa⟩:=ha;obtain ⟨pb,cb,rfl,qb⟩:=hb;have H0:=yay (Below.refl w.heap.size w);generalize hN:w.heap.size=N at *;replace hN:=yay hN;go_enter Try.func22,Try.ntmps22
 go_wp2_with fail
 go_loopw [5] (fun iv wr=>∃ j:Nat,j≤l.length∧iv = .int .i64 j∧Hid (Below N w wr)) (fun iv _=>l.length - (intOf iv).toNat)
 case atStart=>exact ⟨0,by omega,rfl,H0⟩
 case round =>
  obtain ⟨j,hj,rfl,HB⟩:=hrel;by_cases hlt:j < l.length
  ·have hlt':(j:Int) < (l.length:Int):=by omega
   have hne:l≠[]:=fun z=>by rw [z] at hlt;simp at hlt
   obtain ⟨ba,oa,rfl,ka⟩:=qa hne;obtain ⟨bb,ob,rfl,kb⟩:=qb hne;have hx:=List.getElem?_eq_getElem hlt;obtain ⟨a0,a1,ua,a2,ia⟩:=ka j _ hx;obtain ⟨b0,b1,ub,b2,ib⟩:=kb j _ hx;have hrl:=hll _ (List.getElem_mem hlt);generalize l[j]=x at *;obtain ⟨ok,m,rl⟩:=x;have HN:Hid (∀ w',Below wr.heap.size wr w'→Calls Try.prog 23 #[ua,ub] w' fun e w''=>e = .returned (.bool true)∧Below w'.heap.size w' w''):=yay fun w' hb'=>by
    have kk:∀ b,b < w.heap.size→w'.heap[b]?=w.heap[b]?:=fun b hb=>(hb'.block b (by have h1:=HB.out.size;have h2:=hN.out;omega)).trans (HB.out.block b (by rw [← hN.out];exact hb));exact zqj (ia.mono kk) (ib.mono kk) hrl
   have eua:∃ x1 x2 x3,ua = .slice x1 x2 x3:=by obtain ⟨x1,x2,e,_⟩:=ia;exact ⟨_,_,_,e⟩
   have eub:∃ x1 x2 x3,ub = .slice x1 x2 x3:=by obtain ⟨x1,x2,e,_⟩:=ib;exact ⟨_,_,_,e⟩
   obtain ⟨y1,y2,y3,rfl⟩:=eua;obtain ⟨z1,z2,z3,rfl⟩:=eub;clear ia ib hrl;have kp:∀ {ad:Addr} {v:Value},w.cell? ad=some v→wr.cell? ad=some v:=fun {ad v} h=>zbd (w:=w) (fun b hb=>HB.out.block b (by rw [← hN.out];exact hb)) h;replace a0:=kp a0;replace a1:=kp a1;replace a2:=kp a2;replace b0:=kp b0;replace b1:=kp b1;replace b2:=kp b2;have e2:IntKind.i64.wrap ((j:Int)+1)=((j+1:Nat):Int):=by rw [IntKind.wrap_i64];omega
   clear kp ka kb qa qb hx;have hmm:(m != m)=false:=by simp
   have hsz:N≤wr.heap.size:=by have:=HB.out.size;have:=hN.out;omega
   replace hsz:=yay hsz;have HD:=yay HB.out.drew;simp only at a0 a1 b0 b1;go_upto_region 6 with fail
   go_cut [54] (fun v wx=>v = .bool false∧Below N w wx)
   case first =>
    cases ok
    ·have HK:Hid (∀ w',Below wr.heap.size wr w'→(w'.cell? ⟨ba,oa+j * 3,none⟩=some (.bool false)∧w'.cell? ⟨ba,oa+j * 3+1,none⟩=some (.int .i64 m)∧w'.cell? ⟨ba,oa+j * 3+2,none⟩=some (.slice y1 y2 y3)∧w'.cell? ⟨bb,ob+j * 3,none⟩=some (.bool false)∧w'.cell? ⟨bb,ob+j * 3+1,none⟩=some (.int .i64 m)∧w'.cell? ⟨bb,ob+j * 3+2,none⟩=some (.slice z1 z2 z3))):=yay (fun w' h=>⟨zbd h.block a0,zbd h.block a1,zbd h.block a2,zbd h.block b0,zbd h.block b1,zbd h.block b2⟩)
     go_region_held3 (fun w'=>w'.cell? ⟨ba,oa+j * 3,none⟩=some (.bool false)∧w'.cell? ⟨ba,oa+j * 3+1,none⟩=some (.int .i64 m)∧w'.cell? ⟨ba,oa+j * 3+2,none⟩=some (.slice y1 y2 y3)∧w'.cell? ⟨bb,ob+j * 3,none⟩=some (.bool false)∧w'.cell? ⟨bb,ob+j * 3+1,none⟩=some (.int .i64 m)∧w'.cell? ⟨bb,ob+j * 3+2,none⟩=some (.slice z1 z2 z3))
      (first|exact HK.out _ (Below.refl _ _).drew|exact HK.out _ HB5.out)
      ((go_at_call 23;refine (HN.out _ (Below.refl _ _).drew).mono ?_;rintro e w5 ⟨rfl,hb5⟩;(have HB5:Hid (Below wr.heap.size wr w5):=yay ((Below.refl wr.heap.size wr).drew.trans hb5));clear hb5))
     all_goals (go_wp2_with fail;go_meet)
     all_goals exact ⟨rfl,HB.out.trans (HB5.out.mono hsz.out)⟩
    ·have HK:Hid (∀ w',Below wr.heap.size wr w'→(w'.cell? ⟨ba,oa+j * 3,none⟩=some (.bool true)∧w'.cell? ⟨ba,oa+j * 3+1,none⟩=some (.int .i64 m)∧w'.cell? ⟨ba,oa+j * 3+2,none⟩=some (.slice y1 y2 y3)∧w'.cell? ⟨bb,ob+j * 3,none⟩=some (.bool true)∧w'.cell? ⟨bb,ob+j * 3+1,none⟩=some (.int .i64 m)∧w'.cell? ⟨bb,ob+j * 3+2,none⟩=some (.slice z1 z2 z3))):=yay (fun w' h=>⟨zbd h.block a0,zbd h.block a1,zbd h.block a2,zbd h.block b0,zbd h.block b1,zbd h.block b2⟩)
     go_region_held3 (fun w'=>w'.cell? ⟨ba,oa+j * 3,none⟩=some (.bool true)∧w'.cell? ⟨ba,oa+j * 3+1,none⟩=some (.int .i64 m)∧w'.cell? ⟨ba,oa+j * 3+2,none⟩=some (.slice y1 y2 y3)∧w'.cell? ⟨bb,ob+j * 3,none⟩=some (.bool true)∧w'.cell? ⟨bb,ob+j * 3+1,none⟩=some (.int .i64 m)∧w'.cell? ⟨bb,ob+j * 3+2,none⟩=some (.slice z1 z2 z3))
      (first|exact HK.out _ (Below.refl _ _).drew|exact HK.out _ HB5.out)
      ((go_at_call 23;refine (HN.out _ (Below.refl _ _).drew).mono ?_;rintro e w5 ⟨rfl,hb5⟩;(have HB5:Hid (Below wr.heap.size wr w5):=yay ((Below.refl wr.heap.size wr).drew.trans hb5));clear hb5))
     all_goals (go_wp2_with fail;go_meet)
     all_goals exact ⟨rfl,HB.out.trans (HB5.out.mono hsz.out)⟩
   case rest =>
    obtain ⟨rfl,hb6⟩:=hcut;have HB6:=yay hb6;clear hb6
    go_wp2_with fail
    exact ⟨⟨j+1,by omega,by rw [Int.natCast_add];rfl,HB6⟩,by simp [intOf];omega⟩
  ·obtain rfl:j=l.length:=by omega
   go_wp2_with fail
   go_ret
   exact ⟨rfl,HB.out⟩
open Go.ConcN (upd upd_ne upd_same)
set_option maxRecDepth 100000
noncomputable def c5:Code:=(Try.f5.body).getD .skip
def sW (j:Nat):GateS:=⟨0,[],fun i=>if i < j then 0 else -1⟩
theorem setW (j:Nat) (hj:j < 64):(setR (sW j) j 0).1=0∧(setR (sW j) j 0).2.ser=(sW (j+1)).ser∧(setR (sW j) j 0).2.mem=(sW (j+1)).mem∧∀ i,i < 64→(sW (j+1)).num i=(setR (sW j) j 0).2.num i:=by
 unfold setR;rw [if_neg (by omega)];refine ⟨rfl,rfl,rfl,fun i hi=>?_⟩;show (if i < j+1 then (0:Int) else -1)=upd (fun i=>if i < j then (0:Int) else -1) ((j:Int)).toNat 0 i;rw [show ((j:Int)).toNat=j by omega];by_cases h:i=j
 ·subst h;rw [upd_same,if_pos (by omega)]
 ·rw [upd_ne _ _ h];by_cases h2:i < j
  ·rw [if_pos h2,if_pos (by omega)]
  ·rw [if_neg h2,if_neg (by omega)]
section
variable {w0 w w':World} {gz gw:Nat} {sz sw s':GateS} {oz ow o':Nat→Owner}
end
structure X5 (va:Value) (gz gw:Nat) (x:Nat→Value):Prop where
 x0:x 0=va
 x3:x 3 = .pointer none
 x4:x 4=gpv gz
 x5:x 5=gpv gw
section
variable {Z:Machine→Trace→Prop} {c:Frame} {cs:List Frame} {gz gw:Nat} {oz:Nat→Owner} {R:List Item} {w0:World} {va:Value}
end
structure BlkAt (oz ow:Nat→Owner) (w:World) (K:Nat) (o:Obj):Prop where
 z:oz K = .out
 wt:ow K = .out
 at_:w.heap[K]?=some o
theorem BlkAt.keep {oz ow oz' ow':Nat→Owner} {w w':World} {K:Nat} {o:Obj} (h:BlkAt oz ow w K o) (hk:∀ b,b < w.heap.size→oz b = .out→ow b = .out→(oz' b = .out∧ow' b = .out)∧w'.heap[b]?=w.heap[b]?):BlkAt oz' ow' w' K o:=by
 have:=hk K (yah.1 h.at_).1 h.z h.wt;exact ⟨this.1.1,this.1.2,this.2.trans h.at_⟩
def zq9:Obj := .cells #[.bool false,.int .i64 0,.slice none 0 0] 42 (0,0)
section
variable {w0 w w':World} {gz gw N:Nat} {s:GateS} {o:OpD} {z x:Nat→Value} {listed:Array Bool} {oz ow oz' ow':Nat→Owner}
theorem za0 {listed:Array Bool} {i j:Nat} (h:j≠i):(listed.setIfInBounds i true).getD j false=listed.getD j false:=by
 by_cases hj:j < listed.size
 ·simp only [Array.getD,Array.size_setIfInBounds,hj,dite_true,Array.getInternal_eq_getElem];rw [Array.getElem_setIfInBounds_ne _ (fun e=>h e.symm)]
 ·simp [Array.getD,hj]
end
section
variable {Z:Machine→Trace→Prop} {Q:Nat→SM GateS→Prop} {o:Os×Array (Nat×ByteArray)} {gb sb:Nat} {s s':GateS} {own:Nat→Owner} {w:World} {c:Frame} {cs:List Frame}
end
def TL (wb fb bb:Nat):CL:=⟨1,fun _=>wb,fun _=>fb,fun _=>bb⟩
def ThB (wb fb bb:Nat) (b:Nat):Prop:=b=wb∨b=fb∨b=bb
section
variable {wb fb bb:Nat}
theorem famTh:zq7 (zcb (TL wb fb bb)) (ThB wb fb bb):=⟨zpx _,fun {s own w} h b hb=>by
  have h0:0 < (TL wb fb bb).n:=Nat.one_pos;have a1:=h.wo 0 h0;have a2:=h.fl 0 h0;have a3:=h.bo 0 h0;obtain ⟨p,c1,_⟩:=a3.cell;rcases hb with rfl|rfl|rfl
  ·exact ⟨a1.sh,(yah.1 a1.at_).1⟩
  ·exact ⟨a2.sh,(yah.1 a2.at_).1⟩
  ·exact ⟨a3.sh,(yah.1 c1).1⟩,
 fun {s own own' w w'} h hk ht hn=>⟨h.n,fun i hi=>(h.wo i hi).keep (hk wb (.inl rfl)),fun i hi=>(h.fl i hi).keep (hk fb (.inr (.inl rfl))),fun i hi=>(h.bo i hi).keep (hk bb (.inr (.inr rfl))) ht hn,h.wd,h.fd,h.bd⟩⟩
end
section
variable {L:CL} {md:Md (SM zb8)} {i:Nat}
theorem partWR (hmd:md.Rep=znu (zcb L)) (hi:i < L.n):Part md (zcs i) (WAt (L.wb i)) (L.wb i) (fun _=>False) :=
 ⟨fun {m own w} h=>by rw [hmd] at h;exact (show zcb L m.st own w from h).wo i hi,fun {m own own' w w' v} hh hk hv=>by
  rw [hmd] at hh ⊢;have h:zcb L m.st own w:=hh;refine (show zcb L _ own' w' from ⟨h.n,fun j hj=>?_,fun j hj=>(h.fl j hj).keep (hk.sh _ (h.fl j hj).sh (zd0 (h.fl j hj).at_ (h.wo i hi).at_ (by decide))),fun j hj=>?_,h.wd,h.fd,h.bd⟩)
  ·show WAt _ (upd m.st.W i v j) _ _;by_cases e:j=i
   ·subst e;rw [upd_same];exact hv
   ·rw [upd_ne _ _ e];exact (h.wo j hj).keep (hk.sh _ (h.wo j hj).sh fun z=>e (h.wd j i hj hi z))
  ·obtain ⟨p,c1,_⟩:=(h.bo j hj).cell;exact (h.bo j hj).keep (hk.sh _ (h.bo j hj).sh (zd0 c1 (h.wo i hi).at_ (by decide))) (fun b v _ q=>hk.tag b v q) fun b v q=>by
    rcases hk.new b v q with z|z|z
    ·exact .inl z
    ·exact .inr (by omega)
    ·exact z.elim⟩
theorem partFR (hmd:md.Rep=znu (zcb L)) (hi:i < L.n):Part md (zhk i) (FAt (L.fb i)) (L.fb i) (fun _=>False) :=
 ⟨fun {m own w} h=>by rw [hmd] at h;exact (show zcb L m.st own w from h).fl i hi,fun {m own own' w w' v} hh hk hv=>by
  rw [hmd] at hh ⊢;have h:zcb L m.st own w:=hh;refine (show zcb L _ own' w' from ⟨h.n,fun j hj=>(h.wo j hj).keep (hk.sh _ (h.wo j hj).sh (zd0 (h.wo j hj).at_ (h.fl i hi).at_ (by decide))),fun j hj=>?_,fun j hj=>?_,h.wd,h.fd,h.bd⟩)
  ·show FAt _ (upd m.st.F i v j) _ _;by_cases e:j=i
   ·subst e;rw [upd_same];exact hv
   ·rw [upd_ne _ _ e];exact (h.fl j hj).keep (hk.sh _ (h.fl j hj).sh fun z=>e (h.fd j i hj hi z))
  ·obtain ⟨p,c1,_⟩:=(h.bo j hj).cell;exact (h.bo j hj).keep (hk.sh _ (h.bo j hj).sh (zd0 c1 (h.fl i hi).at_ (by decide))) (fun b v _ q=>hk.tag b v q) fun b v q=>by
    rcases hk.new b v q with z|z|z
    ·exact .inl z
    ·exact .inr (by omega)
    ·exact z.elim⟩
theorem partBR (hmd:md.Rep=znu (zcb L)) (hi:i < L.n):Part md (zd3 i) (BAt i (L.bb i)) (L.bb i) TS2 :=
 ⟨fun {m own w} h=>by rw [hmd] at h;exact (show zcb L m.st own w from h).bo i hi,fun {m own own' w w' v} hh hk hv=>by
  rw [hmd] at hh ⊢;have h:zcb L m.st own w:=hh;obtain ⟨p,c1,_⟩:=(h.bo i hi).cell;refine (show zcb L _ own' w' from ⟨h.n,fun j hj=>(h.wo j hj).keep (hk.sh _ (h.wo j hj).sh (zd0 (h.wo j hj).at_ c1 (by decide))),fun j hj=>(h.fl j hj).keep (hk.sh _ (h.fl j hj).sh (zd0 (h.fl j hj).at_ c1 (by decide))),fun j hj=>?_,h.wd,h.fd,h.bd⟩)
  show BAt j (L.bb j) ⟨upd m.st.B i v.v j,upd m.st.Ser i v.ser j,v.top⟩ _ _;by_cases e:j=i
  ·subst e;rw [upd_same,upd_same];exact hv
  ·rw [upd_ne _ _ e,upd_ne _ _ e];obtain ⟨q,d1,d2⟩:=(h.bo j hj).cell;have hq:=hk.sh _ (h.bo j hj).sh fun z=>e (h.bd j i hj hi z);exact ⟨hq.1,⟨q,hq.2.trans d1,d2.keep fun b v _ q=>hk.tag b v q⟩,hv.inj,hv.top⟩⟩
end
def zcq (s:zb8) (o:OpD):Ans×zb8 :=
 if o.kind=1 then (⟨true,s.W 0,[]⟩,s)
 else if o.kind=2 then (⟨true,0,[]⟩,(zcs 0).put o.b s)
 else if o.kind=3 then (⟨true,zb9 (s.W 0) o.b,[]⟩,(zcs 0).put (zb9 (s.W 0) o.b) s)
 else if o.kind=4 then (⟨true,s.W 0,[]⟩,(zcs 0).put o.b s)
 else if o.kind=5 then (if s.W 0=o.b then (⟨true,0,[]⟩,(zcs 0).put o.c s) else (⟨false,0,[]⟩,s))
 else if o.kind=6 then (match grT o.b (s.W 0) with|none=>(⟨false,s.W 0,[]⟩,s)|some y=>(⟨true,y,[]⟩,(zcs 0).put y s))
 else if o.kind=7 then (match leT o.b (s.W 0) with|none=>(⟨false,s.W 0,[]⟩,s)|some y=>(⟨true,y,[]⟩,(zcs 0).put y s))
 else if o.kind=8 then (match buT o.b o.c (s.W 0) with|none=>(⟨false,s.W 0,[]⟩,s)|some y=>(⟨true,y,[]⟩,(zcs 0).put y s))
 else if o.kind=9 then (⟨s.F 0,0,[]⟩,s)
 else if o.kind=10 then (⟨!s.F 0,0,[]⟩,(zhk 0).put true s)
 else if o.kind=11 then (⟨s.F 0,0,[]⟩,(zhk 0).put false s)
 else if o.kind=12 then (⟨true,s.B 0,[]⟩,s)
 else if o.kind=13 then (⟨true,0,[]⟩,(zd3 0).put (((zd3 0).get s).lay o.b) s)
 else if o.kind=14 then (⟨true,s.B 0,[]⟩,(zd3 0).put (((zd3 0).get s).lay o.b) s)
 else if o.kind=15 then (⟨true,zb9 (s.B 0) o.b,[]⟩,(zd3 0).put (((zd3 0).get s).lay (zb9 (s.B 0) o.b)) s)
 else (⟨false,0,[]⟩,s)
def zvo (s:zb8) (o:OpD):Nat :=
 if o.kind=6 then (match grT o.b (s.W 0) with|none=>1|some _=>2)
 else if o.kind=7 then (match leT o.b (s.W 0) with|none=>1|some _=>2)
 else if o.kind=8 then (match buT o.b o.c (s.W 0) with|none=>1|some _=>2)
 else if o.kind=15 then 2
 else if 1≤o.kind∧o.kind≤14 then 1 else 0
theorem zvn (s:zb8) (o:OpD):zvo s o≤2:=by
 unfold zvo;split
 ·split<;>omega
 ·split
  ·split<;>omega
  ·split
   ·split<;>omega
   ·split
    ·omega
    ·split<;>omega
theorem ztq (s:zb8) (o:OpD):(zcq s o).1.l=[]:=by
 unfold zcq;by_cases k1:o.kind=1
 ·rw [if_pos k1]
 rw [if_neg k1];by_cases k2:o.kind=2
 ·rw [if_pos k2]
 rw [if_neg k2];by_cases k3:o.kind=3
 ·rw [if_pos k3]
 rw [if_neg k3];by_cases k4:o.kind=4
 ·rw [if_pos k4]
 rw [if_neg k4];by_cases k5:o.kind=5
 ·rw [if_pos k5];split<;>rfl
 rw [if_neg k5];by_cases k6:o.kind=6
 ·rw [if_pos k6];split<;>rfl
 rw [if_neg k6];by_cases k7:o.kind=7
 ·rw [if_pos k7];split<;>rfl
 rw [if_neg k7];by_cases k8:o.kind=8
 ·rw [if_pos k8];split<;>rfl
 rw [if_neg k8];by_cases k9:o.kind=9
 ·rw [if_pos k9]
 rw [if_neg k9];by_cases k10:o.kind=10
 ·rw [if_pos k10]
 rw [if_neg k10];by_cases k11:o.kind=11
 ·rw [if_pos k11]
 rw [if_neg k11];by_cases k12:o.kind=12
 ·rw [if_pos k12]
 rw [if_neg k12];by_cases k13:o.kind=13
 ·rw [if_pos k13]
 rw [if_neg k13];by_cases k14:o.kind=14
 ·rw [if_pos k14]
 rw [if_neg k14];by_cases k15:o.kind=15
 ·rw [if_pos k15]
 rw [if_neg k15]
section
variable {s:zb8} {an:Nat→List Ans} {κ:Ans→Fu (SM zb8)} {f:Nat} {o:OpD}
theorem zl9 {tst:Int→Option Int} {κ':Int→Bool→Fu (SM zb8)}:AlS (match tst (s.W 0) with|none=>1|some _=>2) (zbo (zcs 0) tst κ' (f+1) ⟨s,an⟩) (match tst (s.W 0) with|none=>κ' (s.W 0) false ⟨s,an⟩|some y=>κ' y true ⟨(zcs 0).put y s,an⟩):=by
 show AlS _ (zdd (zcs 0) (fun x=>zcd (zcs 0) tst κ' (zbo (zcs 0) tst κ' f) x) ⟨s,an⟩) _;cases h:tst (s.W 0) with
 | none =>
  refine AlS.stepF (k:=0) ?_;show AlS 0 (zcd (zcs 0) tst κ' _ (s.W 0) ⟨s,an⟩) _;rw [zez h];exact .zero
 | some y =>
  refine AlS.stepF (k:=1) ?_;show AlS 1 (zcd (zcs 0) tst κ' _ (s.W 0) ⟨s,an⟩) _;rw [zey h];refine AlS.stepF (k:=0) ?_;refine .of_eq ?_;unfold zg3;exact (if_pos rfl).trans rfl
theorem zvv:AlS (zvo s o) (zcp (zcs 0) (zhk 0) (zd3 0) (f+1) o κ ⟨s,an⟩) (κ (zcq s o).1 ⟨(zcq s o).2,an⟩):=by
 unfold zvo zcp zcq;by_cases k1:o.kind=1
 ·simp only [k1];exact AlS.stepF (k:=0) .zero
 simp only [if_neg k1];by_cases k2:o.kind=2
 ·simp only [k2];exact AlS.stepF (k:=0) .zero
 simp only [if_neg k2];by_cases k3:o.kind=3
 ·simp only [k3];exact AlS.stepF (k:=0) .zero
 simp only [if_neg k3];by_cases k4:o.kind=4
 ·simp only [k4];exact AlS.stepF (k:=0) .zero
 simp only [if_neg k4];by_cases k5:o.kind=5
 ·simp only [k5];refine AlS.stepF (k:=0) (.of_eq ?_);unfold zg3;by_cases q:s.W 0=o.b
  ·exact (if_pos q).trans (by simp only [if_pos q];rfl)
  ·exact (if_neg q).trans (by simp only [if_neg q,if_true])
 simp only [if_neg k5];by_cases k6:o.kind=6
 ·simp only [if_pos k6];have:=zl9 (s:=s) (an:=an) (f:=f) (tst:=grT o.b) (κ':=fun r t=>κ ⟨t,r,[]⟩);cases h:grT o.b (s.W 0)<;>(rw [h] at this;exact this)
 simp only [if_neg k6];by_cases k7:o.kind=7
 ·simp only [if_pos k7];have:=zl9 (s:=s) (an:=an) (f:=f) (tst:=leT o.b) (κ':=fun r t=>κ ⟨t,r,[]⟩);cases h:leT o.b (s.W 0)<;>(rw [h] at this;exact this)
 simp only [if_neg k7];by_cases k8:o.kind=8
 ·simp only [if_pos k8];have:=zl9 (s:=s) (an:=an) (f:=f) (tst:=buT o.b o.c) (κ':=fun r t=>κ ⟨t,r,[]⟩);cases h:buT o.b o.c (s.W 0)<;>(rw [h] at this;exact this)
 simp only [if_neg k8];by_cases k15:o.kind=15
 ·simp only [k15];refine AlS.stepF (k:=1) (AlS.stepF (k:=0) (.of_eq ?_));unfold xcasP;exact (if_pos rfl).trans rfl
 simp only [if_neg k15];by_cases k9:o.kind=9
 ·simp only [k9];exact AlS.stepF (k:=0) .zero
 simp only [if_neg k9];by_cases k10:o.kind=10
 ·simp only [k10];exact AlS.stepF (k:=0) .zero
 simp only [if_neg k10];by_cases k11:o.kind=11
 ·simp only [k11];exact AlS.stepF (k:=0) .zero
 simp only [if_neg k11];by_cases k12:o.kind=12
 ·simp only [k12];exact AlS.stepF (k:=0) .zero
 simp only [if_neg k12];by_cases k13:o.kind=13
 ·simp only [k13];exact AlS.stepF (k:=0) .zero
 simp only [if_neg k13];by_cases k14:o.kind=14
 ·simp only [k14];exact AlS.stepF (k:=0) .zero
 simp only [if_neg k14];rw [if_neg (by omega)];exact .zero
end
section
variable {S:Type} {R:S→(Nat→Owner)→World→Prop} {B:Nat→Prop} {Z:Machine→Trace→Prop} {Q:Nat→SM S→Prop} {o:Os×Array (Nat×ByteArray)} {sb:Nat} {s s':S} {own:Nat→Owner} {w:World} {c:Frame} {cs:List Frame}
end
section
variable {wb fb bb sb:Nat} {Z:Machine→Trace→Prop} {s:zb8} {own:Nat→Owner} {w:World} {c:Frame} {cs:List Frame} {o:OpD}
abbrev ThW (wb fb bb:Nat) (s:zb8) (own:Nat→Owner) (w:World):Prop:=FW (zcb (TL wb fb bb)) (ThB wb fb bb) s own w
open Classical in
theorem zo9 (G0:ThW wb fb bb s own w) (ho:o.Ok) (h:∀ own' w' v,ThW wb fb bb (zcq s o).2 own' w'→Left own own' w w'→LRow .out 0 own' w' v []→(∀ b,v.ownBlock=some b→w.heap.size≤b∨own b ≠ .out)→RM Try.prog Z (G (c.finish (zbu (zcq s o).1 v)) cs) w') :
  RM Try.prog Z (G (Frame.enter Try.prog 35 #[.agg #[gpv wb,gpv fb,gpv bb],.nilIface,opV o] .normal) (c::cs)) w:=by
 have hF:FF (fun (_:Nat) m=>m=⟨(zcq s o).2,fun _=>[]⟩) (zcp (zcs 0) (zhk 0) (zd3 0) 1 o (fun r=>if r=(zcq s o).1 then zq1 else zi3)) 0 ⟨s,fun _=>[]⟩:=by
  refine AlS.ff (zvv (f:=0)) (by have:=zvn s o;omega) ?_;show FinC _ ((if (zcq s o).1=(zcq s o).1 then zq1 else zi3) _).2 _ ((if (zcq s o).1=(zcq s o).1 then zq1 else zi3) _).1;rw [if_pos rfl];exact rfl
 have:=ztp (md:=zma (znu (zcb (TL wb fb bb))) 0 Z (fun _ m=>m=⟨(zcq s o).2,fun _=>[]⟩) (w.os,w.output)) (lo:=0) (A:=fun _=>False) (w₀:=⟨w.heap,⟨s,fun _=>[]⟩,zgh own w.heap.size⟩) (c:=c) (cs:=cs) (ib:=0) (zm8 famTh.ok) (partWR (L:=TL wb fb bb) (i:=0) rfl Nat.one_pos) (partFR (L:=TL wb fb bb) (i:=0) rfl Nat.one_pos) (partBR (L:=TL wb fb bb) (i:=0) rfl Nat.one_pos) (by decide) 1 (fun _=>Nat.zero_le _) (κ:=fun r=>if r=(zcq s o).1 then zq1 else zi3) ho trivial (fun r v y own4 w4 m4 C4 hL _ hk hQ=>?_) (G0.ctx famTh.ok) ⟨rfl,rfl⟩ hF
 ·exact this
 ·by_cases hr:r=(zcq s o).1
  ·subst hr;rw [if_pos rfl] at hQ;obtain ⟨G1,L1,_⟩:=G0.after famTh C4 .refl (show m4=_ from hQ) hk
   have hsh:=famTh.sh (show zcb (TL wb fb bb) m4.st own4 w4 from C4.rep)
   rw [ztq] at hL;refine h _ _ v G1 L1 ⟨hL.row,fun b hb=>?_⟩ fun b hb=>?_
   rotate_left
   ·rcases Nat.lt_or_ge b w.heap.size with z|z
    ·refine .inr fun ho=>?_;have h1:=hL.mine b hb;rw [(C4.tg b 0 (if_pos ⟨ho,z⟩)).1] at h1;cases h1
    ·exact .inl z
   have h1:=hL.mine b hb;have hne:¬ ThB wb fb bb b:=fun z=>by rw [(hsh b z).1] at h1;cases h1
   unfold zio;rw [if_neg hne,if_neg (by rintro ⟨t,_,z⟩;rw [h1] at z;cases z)]
  ·rw [if_neg hr] at hQ;exact hQ.elim
end
theorem zau {P:Program} {Z:Machine→Trace→Prop} {b:Frame} {a:Act} {k:List Item} {cs:List Frame} {w:World} {ops:Array Oper} {i:Nat} {rest:List Nat} {o:Oper} {v:Value} (ho:ops[i]?=some o) (hw:Region.wanted o (yielded ops a.tmps)=true) (hk:b.kind ≠ .early) (hc:zc3 true P (fun _=>False) o)
  (hr:∀ wp,Sim wp w→(execOp a.eval o).run P wp = .ok (.value v) wp) (h:RM P Z (G (b.at (a.put o.dst v) (.inRegion ops rest::k)) cs) w):RM P Z (G (b.at a (.inRegion ops (i::rest)::k)) cs) w :=
 x_op rm_xc (za4 w) ho hw hk hc (n := .value v) (.inl rfl) (hr _ (by rw [zbj];exact .refl _)) rfl fun d w1 h1 h2 h3=>by
  have hw1:w1=w.at d:=zgu h2.okd (show Okd _ (w.at d) from (za4 w).okd) h1
  subst hw1;exact rm_xc.at_ _ _ _ h
theorem zdr (w:World) (b:Nat) (r:Ans) (v:Value):(zh5 w b r v).os=w.os∧(zh5 w b r v).output=w.output:=⟨rfl,rfl⟩
section
variable {Z:Machine→Trace→Prop} {c:Frame} {cs:List Frame} {w0 w:World} {gz gw N:Nat} {s:GateS} {o:OpD} {z:Nat→Value} {oz ow:Nat→Owner} {R:List Item}
end
noncomputable def c4:Code:=(Try.f4.body).getD .skip
noncomputable def mk (sb:Nat) (o:Nat→Owner):Nat→Owner:=upd o sb .tun
section
variable {w0 w w':World} {gz gw sb n n':Nat} {sz sw s':GateS} {oz ow o':Nat→Owner}
end
section
variable {w0 w w':World} {gz gw sb jj b off len cap n:Nat} {s:GateS} {o:OpD} {z x:Nat→Value} {listed:Array Bool} {oz ow oz' ow':Nat→Owner}
end
section
variable {Z:Machine→Trace→Prop} {c:Frame} {cs:List Frame} {w0 w:World} {gz gw sb N jj b off len cap n:Nat} {s:GateS} {o:OpD} {z:Nat→Value} {oz ow:Nat→Owner} {R:List Item}
end
theorem prgS:Prg true Try.prog (·∈[22,23,24,26,83,84,87]):=zhg zae (by kernel_rfl) (by kernel_rfl) (by kernel_rfl)
theorem zor {w w':World} (h:Below w.heap.size w w'):LeftW w w':=⟨fun b hb=>h.block b hb,h.size,h.os,h.output⟩
theorem zpp {w w':World} (τ:Nat→Question→Nat) (d:Nat) (h:LeftW w w'):LeftW w (re τ d w'):=⟨h.same,h.size,h.outs⟩
theorem zsp {w w':World} {τ:Nat→Question→Nat} {d:Nat} (h:LeftW (re τ d w) w'):LeftW w w':=⟨h.same,h.size,h.outs⟩
theorem znq {w:World} {M:Nat} {r:Ans} {u:Value} {t:TypeId} (h:w.heap[M]?=some (.cells #[.bool r.ok,.int .i64 r.n,u] t (0,0))) (hi:IntsAt w u r.l):AnsIn w (.slice (some ⟨M,0,none⟩) 1 1) [r] :=
 ⟨_,_,rfl,fun _=>⟨M,0,rfl,fun j x hj=>by
  rcases j with _|j
  ·obtain rfl:r=x:=by simpa using hj
   exact ⟨zac h 0,zac h 1,u,zac h 2,hi⟩
  ·simp at hj⟩⟩
section
variable {Z:Machine→Trace→Prop} {c:Frame} {cs:List Frame} {w:World}
theorem zql {a b:Value} {l:List Ans} (hll:∀ r∈l,r.l.length≤1000000000) (ha:AnsIn w a l) (hb:AnsIn w b l) (hl:l.length≤1000000000) (h:∀ w',LeftW w w'→RM Try.prog Z (G (c.finish (.bool true)) cs) w'):RM Try.prog Z (G (Frame.enter Try.prog 22 #[a,b] .normal) (c::cs)) w :=
 zga prgS (f:=22) (by simp) (R:=fun v w'=>v = .bool true∧LeftW w w') (fun v w' τ d hx=>⟨hx.1,zpp τ d hx.2⟩)
  (fun τ d=>(zqk (w:=re τ d w) hll (AnsIn.keep (w:=w) (w':=re τ d w) (fun _ _=>rfl) ha) (AnsIn.keep (w:=w) (w':=re τ d w) (fun _ _=>rfl) hb) hl).mono fun e w' ⟨he,hb⟩=>⟨_,he,rfl,zsp (zor hb)⟩)
  fun v w' ⟨e,L⟩=>by subst e;exact h w' L
end
section
variable {Z:Machine→Trace→Prop} {c:Frame} {cs:List Frame} {w0 w:World} {gz gw N K K':Nat} {s:GateS} {o:OpD} {r:Ans} {u1 u2:Value} {z:Nat→Value} {oz ow:Nat→Owner} {R:List Item}
end
theorem zv2 {P:Program} {Z:Machine→Trace→Prop} {b:Frame} {a:Act} {k:List Item} {cs:List Frame} {w w2:World} {ops:Array Oper} {i:Nat} {rest:List Nat} {o:Oper} {v:Value} (ho:ops[i]?=some o) (hw:Region.wanted o (yielded ops a.tmps)=true) (hk:b.kind ≠ .early) (hc:zc3 true P (fun _=>False) o)
  (hr:(execOp a.eval o).run P w = .ok (.value v) w2) (hdr:w2.drawn=w.drawn) (h:∀ w1,Sim w1 w2→RM P Z (G (b.at (a.put o.dst v) (.inRegion ops rest::k)) cs) w1):RM P Z (G (b.at a (.inRegion ops (i::rest)::k)) cs) w :=
 x_op rm_xc (za4 w) ho hw hk hc (n := .value v) (.inl rfl) (by rw [zbj];exact hr) hdr fun d w1 e _ _=>h w1 (by rw [zbj] at e;subst e;exact ⟨w.tape,d,rfl⟩)
theorem Tab.at {tv:Nat→Option Value} {d j s:Nat} {v:Value} {listed:Array Bool} {x:Nat→Value} (h:Tab tv d listed x) (hl:listed.getD j false=true) (ht:tv j=some v) (hs:d+j=s):x s=v:=hs▸h j v ht hl
section
variable {W w w':World} {tv:Nat→Option Value} {r:Ans} {z x:Nat→Value} {listed:Array Bool}
end
section
variable {Z:Machine→Trace→Prop} {c:Frame} {cs:List Frame} {W:World} {N K K' ba oa ca bb ob ln cap jj:Nat} {r:Ans} {u1 u2 v3 vo vs st:Value} {z:Nat→Value} {R:List Item}
end
section
variable {Z:Machine→Trace→Prop} {gb:Nat} {s:GateS} {own:Nat→Owner} {w:World} {c:Frame} {cs:List Frame}
end
theorem zao {o:Oper} {ops:Array Oper} {tmps:Array Value} {g sl:Nat} {b:Bool} (ho:o.guard=some (g,b)) (hd:(ops[g]?).bind (·.dst)=some sl) (hy:tmps[sl]?=some (.bool b)):Region.wanted o (yielded ops tmps)=true:=by
 unfold Region.wanted yielded;rw [ho];simp only [hd,Option.bind_some,hy];cases b<;>rfl
section
variable {w0 w w':World} {gz gw sb n:Nat} {sz sw s':GateS} {oz ow o':Nat→Owner}
end
section
variable {w0 w w':World} {gz gw sb ol:Nat} {s:GateS} {tv:Nat→Option Value} {z x:Nat→Value} {listed:Array Bool} {oz ow oz' ow':Nat→Owner}
end
section
variable {Z:Machine→Trace→Prop} {cs:List Frame} {w0 W:World} {gz gw sb N bs os sl cst m ol co:Nat} {po:Option Addr} {s:GateS} {va:Value} {st:Bool} {z:Nat→Value} {oz ow:Nat→Owner} {R:List Item}
end
end Go.Proofs.Ytofacoojpgkbiaa
