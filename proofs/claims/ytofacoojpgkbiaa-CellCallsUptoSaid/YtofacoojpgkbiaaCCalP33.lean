/- Part of a proof. No condition. -/
import Derived.Deep.DeepCutAuto
import Derived.Test.YtofacoojpgkbiaaCCalP32
set_option linter.unusedVariables false
set_option maxHeartbeats 8000000
set_option linter.unusedSimpArgs false
namespace Go.Proofs.Ytofacoojpgkbiaa
open Go.Conc Go.RowKit
set_option maxRecDepth 100000 in
theorem zul{a b:Value}{l:List Int}{w:World}(ha:IntsAt w a l)(hb:IntsAt w b l)(hl:l.length≤1000000000) :
  Calls Try.prog 23 #[a,b] w fun e w'=>e = .returned (.bool true)∧Below w.heap.size w w':=by
 obtain⟨pa,ca,rfl,qa⟩:=ha;obtain⟨pb,cb,rfl,qb⟩:=hb;have H0:=yay (Below.refl w.heap.size w);generalize hN:w.heap.size=N at *;replace hN:=yay hN;go_enter Try.func23,Try.ntmps23
 go_wp2_with fail
 go_loopw [5] (fun iv wr=>∃j:Nat,j≤l.length∧iv = .int .i64 j∧Hid (Below N w wr)) (fun iv _=>l.length - (intOf iv).toNat)
 case atStart=>exact⟨0,by omega,rfl,H0⟩
 case round =>
  obtain⟨j,hj,rfl,HB⟩:=hrel;by_cases qr:j<l.length
  ·have hlt':(j:Int)<(l.length:Int):=by omega
   have hne:l≠[]:=fun z=>by rw[z] at qr;simp at qr
   obtain⟨ba,oa,rfl,ka⟩:=qa hne;obtain⟨bb,ob,rfl,kb⟩:=qb hne;have hx:=List.getElem?_eq_getElem qr;have k1:=ka j _ hx;have k2:=kb j _ hx;generalize l[j]=x at *;have k1:wr.cell? ⟨ba,oa+j,none⟩=some (.int .i64 x):=zax (w:=w) (fun b hb=>HB.out.block b (by rw[←hN.out];exact hb)) k1;have k2:wr.cell? ⟨bb,ob+j,none⟩=some (.int .i64 x):=zax (w:=w) (fun b hb=>HB.out.block b (by rw[←hN.out];exact hb)) k2;have e2:IntKind.i64.wrap ((j:Int)+1)=((j+1:Nat):Int):=by rw[IntKind.wrap_i64];omega
   clear ka kb qa qb hx;have HD:=yay HB.out.drew;go_upto_region 6 with fail
   go_region
   all_goals
    go_wp2_with fail
    exact⟨⟨j+1,by omega,by rw[Int.natCast_add];rfl,HD⟩,by simp[intOf];omega⟩
  ·obtain rfl:j=l.length:=by omega
   go_wp2_with fail
   go_ret
   exact⟨rfl,HB.out⟩
set_option maxRecDepth 100000 in
theorem zum{a b:Value}{l:List Ans}{w:World}(hll:∀r∈l,r.l.length≤1000000000)(ha:AnsIn w a l)(hb:AnsIn w b l)(hl:l.length≤1000000000) :
  Calls Try.prog 22 #[a,b] w fun e w'=>e = .returned (.bool true)∧Below w.heap.size w w':=by
 obtain⟨pa,ca,rfl,qa⟩:=ha;obtain⟨pb,cb,rfl,qb⟩:=hb;have H0:=yay (Below.refl w.heap.size w);generalize hN:w.heap.size=N at *;replace hN:=yay hN;go_enter Try.func22,Try.ntmps22
 go_wp2_with fail
 go_loopw [5] (fun iv wr=>∃j:Nat,j≤l.length∧iv = .int .i64 j∧Hid (Below N w wr)) (fun iv _=>l.length - (intOf iv).toNat)
 case atStart=>exact⟨0,by omega,rfl,H0⟩
 case round =>
  obtain⟨j,hj,rfl,HB⟩:=hrel;by_cases qr:j<l.length
  ·have hlt':(j:Int)<(l.length:Int):=by omega
   have hne:l≠[]:=fun z=>by rw[z] at qr;simp at qr
   obtain⟨ba,oa,rfl,ka⟩:=qa hne;obtain⟨bb,ob,rfl,kb⟩:=qb hne;have hx:=List.getElem?_eq_getElem qr;obtain⟨a0,a1,ua,a2,ia⟩:=ka j _ hx;obtain⟨b0,b1,ub,b2,ib⟩:=kb j _ hx;have hrl:=hll _ (List.getElem_mem qr);generalize l[j]=x at *;obtain⟨ok,m,rl⟩:=x;have HN:Hid (∀w',Below wr.heap.size wr w'→Calls Try.prog 23 #[ua,ub] w' fun e w''=>e = .returned (.bool true)∧Below w'.heap.size w' w''):=yay fun w' hb'=>by
    have kk:∀b,b<w.heap.size→w'.heap[b]?=w.heap[b]?:=fun b hb=>(hb'.block b (by have h1:=HB.out.size;have h2:=hN.out;omega)).trans (HB.out.block b (by rw[←hN.out];exact hb));exact zul (ia.mono kk) (ib.mono kk) hrl
   have eua:∃x1 x2 x3,ua = .slice x1 x2 x3:=by obtain⟨x1,x2,e,_⟩:=ia;exact⟨_,_,_,e⟩
   have eub:∃x1 x2 x3,ub = .slice x1 x2 x3:=by obtain⟨x1,x2,e,_⟩:=ib;exact⟨_,_,_,e⟩
   obtain⟨y1,y2,y3,rfl⟩:=eua;obtain⟨z1,z2,z3,rfl⟩:=eub;clear ia ib hrl;have kp:∀{ad:Addr} {v:Value},w.cell? ad=some v→wr.cell? ad=some v:=fun{ad v} h=>zax (w:=w) (fun b hb=>HB.out.block b (by rw[←hN.out];exact hb)) h;replace a0:=kp a0;replace a1:=kp a1;replace a2:=kp a2;replace b0:=kp b0;replace b1:=kp b1;replace b2:=kp b2;have e2:IntKind.i64.wrap ((j:Int)+1)=((j+1:Nat):Int):=by rw[IntKind.wrap_i64];omega
   clear kp ka kb qa qb hx;have hmm:(m != m)=false:=by simp
   have qp:N≤wr.heap.size:=by have:=HB.out.size;have:=hN.out;omega
   replace qp:=yay qp;have HD:=yay HB.out.drew;simp only at a0 a1 b0 b1;go_upto_region 6 with fail
   go_cut [54] (fun v wx=>v = .bool false∧Below N w wx)
   case first =>
    cases ok
    ·have HK:Hid (∀w',Below wr.heap.size wr w'→(w'.cell? ⟨ba,oa+j*3,none⟩=some (.bool false)∧w'.cell? ⟨ba,oa+j*3+1,none⟩=some (.int .i64 m)∧w'.cell? ⟨ba,oa+j*3+2,none⟩=some (.slice y1 y2 y3)∧w'.cell? ⟨bb,ob+j*3,none⟩=some (.bool false)∧w'.cell? ⟨bb,ob+j*3+1,none⟩=some (.int .i64 m)∧w'.cell? ⟨bb,ob+j*3+2,none⟩=some (.slice z1 z2 z3))):=yay (fun w' h=>⟨zax h.block a0,zax h.block a1,zax h.block a2,zax h.block b0,zax h.block b1,zax h.block b2⟩)
     go_region_held3 (fun w'=>w'.cell? ⟨ba,oa+j*3,none⟩=some (.bool false)∧w'.cell? ⟨ba,oa+j*3+1,none⟩=some (.int .i64 m)∧w'.cell? ⟨ba,oa+j*3+2,none⟩=some (.slice y1 y2 y3)∧w'.cell? ⟨bb,ob+j*3,none⟩=some (.bool false)∧w'.cell? ⟨bb,ob+j*3+1,none⟩=some (.int .i64 m)∧w'.cell? ⟨bb,ob+j*3+2,none⟩=some (.slice z1 z2 z3))
      (first|exact HK.out _ (Below.refl _ _).drew|exact HK.out _ HB5.out)
      ((go_at_call 23;refine(HN.out _ (Below.refl _ _).drew).mono ?_;rintro e w5 ⟨rfl,hb5⟩;(have HB5:Hid (Below wr.heap.size wr w5):=yay ((Below.refl wr.heap.size wr).drew.trans hb5));clear hb5))
     all_goals (go_wp2_with fail;go_meet)
     all_goals exact⟨rfl,HB.out.trans (HB5.out.mono qp.out)⟩
    ·have HK:Hid (∀w',Below wr.heap.size wr w'→(w'.cell? ⟨ba,oa+j*3,none⟩=some (.bool true)∧w'.cell? ⟨ba,oa+j*3+1,none⟩=some (.int .i64 m)∧w'.cell? ⟨ba,oa+j*3+2,none⟩=some (.slice y1 y2 y3)∧w'.cell? ⟨bb,ob+j*3,none⟩=some (.bool true)∧w'.cell? ⟨bb,ob+j*3+1,none⟩=some (.int .i64 m)∧w'.cell? ⟨bb,ob+j*3+2,none⟩=some (.slice z1 z2 z3))):=yay (fun w' h=>⟨zax h.block a0,zax h.block a1,zax h.block a2,zax h.block b0,zax h.block b1,zax h.block b2⟩)
     go_region_held3 (fun w'=>w'.cell? ⟨ba,oa+j*3,none⟩=some (.bool true)∧w'.cell? ⟨ba,oa+j*3+1,none⟩=some (.int .i64 m)∧w'.cell? ⟨ba,oa+j*3+2,none⟩=some (.slice y1 y2 y3)∧w'.cell? ⟨bb,ob+j*3,none⟩=some (.bool true)∧w'.cell? ⟨bb,ob+j*3+1,none⟩=some (.int .i64 m)∧w'.cell? ⟨bb,ob+j*3+2,none⟩=some (.slice z1 z2 z3))
      (first|exact HK.out _ (Below.refl _ _).drew|exact HK.out _ HB5.out)
      ((go_at_call 23;refine(HN.out _ (Below.refl _ _).drew).mono ?_;rintro e w5 ⟨rfl,hb5⟩;(have HB5:Hid (Below wr.heap.size wr w5):=yay ((Below.refl wr.heap.size wr).drew.trans hb5));clear hb5))
     all_goals (go_wp2_with fail;go_meet)
     all_goals exact⟨rfl,HB.out.trans (HB5.out.mono qp.out)⟩
   case rest =>
    obtain⟨rfl,hb6⟩:=hcut;have HB6:=yay hb6;clear hb6
    go_wp2_with fail
    exact⟨⟨j+1,by omega,by rw[Int.natCast_add];rfl,HB6⟩,by simp[intOf];omega⟩
  ·obtain rfl:j=l.length:=by omega
   go_wp2_with fail
   go_ret
   exact⟨rfl,HB.out⟩
open Go.ConcN (upd upd_ne upd_same)
set_option maxRecDepth 100000
noncomputable def c5:Code:=(Try.f5.body).getD .skip
def sW(j:Nat):GateS:=⟨0,[],fun i=>if i<j then 0 else -1⟩
theorem setW(j:Nat)(hj:j<64):(z4o (sW j) j 0).1=0∧(z4o (sW j) j 0).2.ser=(sW (j+1)).ser∧(z4o (sW j) j 0).2.mem=(sW (j+1)).mem∧∀i,i<64→(sW (j+1)).num i=(z4o (sW j) j 0).2.num i:=by
 unfold z4o;rw[if_neg (by omega)];refine⟨rfl,rfl,rfl,fun i hi=>?_⟩;show(if i<j+1 then(0:Int) else -1)=upd (fun i=>if i<j then(0:Int) else -1) ((j:Int)).toNat 0 i;rw[show((j:Int)).toNat=j by omega];by_cases h:i=j
 ·subst h;rw[upd_same,if_pos (by omega)]
 ·rw[upd_ne _ _ h];by_cases h2:i<j
  ·rw[if_pos h2,if_pos (by omega)]
  ·rw[if_neg h2,if_neg (by omega)]
section
variable{w0 w w':World}{gz gw:Nat}{sz sw s':GateS}{oz ow o':Nat→Owner}
end
section
variable{Z:Machine→Trace→Prop}{c:Frame}{cs:List Frame}{gz gw:Nat}{oz:Nat→Owner}{R:List Item}{w0:World}{va:Value}
end
structure BlkAt(oz ow:Nat→Owner)(w:World)(K:Nat)(o:Obj):Prop where
 z:oz K = .out
 wt:ow K = .out
 at_:w.heap[K]?=some o
theorem BlkAt.keep{oz ow oz' ow':Nat→Owner}{w w':World}{K:Nat}{o:Obj}(h:BlkAt oz ow w K o)(hk:∀b,b<w.heap.size→oz b = .out→ow b = .out→(oz' b = .out∧ow' b = .out)∧w'.heap[b]?=w.heap[b]?):BlkAt oz' ow' w' K o:=by
 have:=hk K (yah.1 h.at_).1 h.z h.wt;exact⟨this.1.1,this.1.2,this.2.trans h.at_⟩
def zvc:Obj := .cells #[.bool false,.int .i64 0,.slice none 0 0] 42 (0,0)
section
variable{w0 w w':World}{gz gw N:Nat}{s:GateS}{o:OpD}{z x:Nat→Value}{qz:Array Bool}{oz ow oz' ow':Nat→Owner}
theorem zar{qz:Array Bool}{i j:Nat}(h:j≠i):(qz.setIfInBounds i true).getD j false=qz.getD j false:=by
 by_cases hj:j<qz.size
 ·simp only[Array.getD,Array.size_setIfInBounds,hj,dite_true,Array.getInternal_eq_getElem];rw[Array.getElem_setIfInBounds_ne _ (fun e=>h e.symm)]
 ·simp[Array.getD,hj]
end
structure z0r(sb:Nat)(own own':Nat→Owner)(w w':World):Prop where
 same:∀b,b<w.heap.size→b≠sb→own b = .out→own' b = .out∧w'.heap[b]?=w.heap[b]?
 cnt:own' sb = .out
 size:w.heap.size≤w'.heap.size
 outs:w'.os=w.os∧w'.output=w.output
section
variable{Z:Machine→Trace→Prop}{Q:Nat→SM GateS→Prop}{o:Os×Array (Nat×ByteArray)}{gb sb:Nat}{s s':GateS}{own:Nat→Owner}{w:World}{c:Frame}{cs:List Frame}
end
def TL(wb fb bb:Nat):CL:=⟨1,fun _=>wb,fun _=>fb,fun _=>bb⟩
def ThB(wb fb bb:Nat)(b:Nat):Prop:=b=wb∨b=fb∨b=bb
section
variable{wb fb bb:Nat}
theorem famTh:zq1 (zb3 (TL wb fb bb)) (ThB wb fb bb):=⟨ztj _,fun{s own w} h b hb=>by
  have h0:0<(TL wb fb bb).n:=Nat.one_pos;have a1:=h.wo 0 h0;have a2:=h.fl 0 h0;have a3:=h.bo 0 h0;obtain⟨p,c1,_⟩:=a3.cell;rcases hb with rfl|rfl|rfl
  ·exact⟨a1.sh,(yah.1 a1.at_).1⟩
  ·exact⟨a2.sh,(yah.1 a2.at_).1⟩
  ·exact⟨a3.sh,(yah.1 c1).1⟩,
 fun{s own own' w w'} h hk ht hn=>⟨h.n,fun i hi=>(h.wo i hi).keep (hk wb (.inl rfl)),fun i hi=>(h.fl i hi).keep (hk fb (.inr (.inl rfl))),fun i hi=>(h.bo i hi).keep (hk bb (.inr (.inr rfl))) ht hn,h.wd,h.fd,h.bd⟩⟩
end
section
variable{L:CL}{md:Md (SM za7)}{i:Nat}
theorem z00(hmd:md.Rep=zo6 (zb3 L))(hi:i<L.n):Part md (zcc i) (WAt (L.wb i)) (L.wb i) (fun _=>False) :=
 ⟨fun{m own w} h=>by rw[hmd] at h;exact(show zb3 L m.st own w from h).wo i hi,fun{m own own' w w' v} hh hk hv=>by
  rw[hmd] at hh⊢;have h:zb3 L m.st own w:=hh;refine(show zb3 L _ own' w' from⟨h.n,fun j hj=>?_,fun j hj=>(h.fl j hj).keep (hk.sh _ (h.fl j hj).sh (zej (h.fl j hj).at_ (h.wo i hi).at_ (by decide))),fun j hj=>?_,h.wd,h.fd,h.bd⟩)
  ·show WAt _ (upd m.st.W i v j) _ _;by_cases e:j=i
   ·subst e;rw[upd_same];exact hv
   ·rw[upd_ne _ _ e];exact(h.wo j hj).keep (hk.sh _ (h.wo j hj).sh fun z=>e (h.wd j i hj hi z))
  ·obtain⟨p,c1,_⟩:=(h.bo j hj).cell;exact(h.bo j hj).keep (hk.sh _ (h.bo j hj).sh (zej c1 (h.wo i hi).at_ (by decide))) (fun b v _ q=>hk.tag b v q) fun b v q=>by
    rcases hk.new b v q with z|z|z
    ·exact .inl z
    ·exact .inr (by omega)
    ·exact z.elim⟩
theorem z01(hmd:md.Rep=zo6 (zb3 L))(hi:i<L.n):Part md (zhl i) (FAt (L.fb i)) (L.fb i) (fun _=>False) :=
 ⟨fun{m own w} h=>by rw[hmd] at h;exact(show zb3 L m.st own w from h).fl i hi,fun{m own own' w w' v} hh hk hv=>by
  rw[hmd] at hh⊢;have h:zb3 L m.st own w:=hh;refine(show zb3 L _ own' w' from⟨h.n,fun j hj=>(h.wo j hj).keep (hk.sh _ (h.wo j hj).sh (zej (h.wo j hj).at_ (h.fl i hi).at_ (by decide))),fun j hj=>?_,fun j hj=>?_,h.wd,h.fd,h.bd⟩)
  ·show FAt _ (upd m.st.F i v j) _ _;by_cases e:j=i
   ·subst e;rw[upd_same];exact hv
   ·rw[upd_ne _ _ e];exact(h.fl j hj).keep (hk.sh _ (h.fl j hj).sh fun z=>e (h.fd j i hj hi z))
  ·obtain⟨p,c1,_⟩:=(h.bo j hj).cell;exact(h.bo j hj).keep (hk.sh _ (h.bo j hj).sh (zej c1 (h.fl i hi).at_ (by decide))) (fun b v _ q=>hk.tag b v q) fun b v q=>by
    rcases hk.new b v q with z|z|z
    ·exact .inl z
    ·exact .inr (by omega)
    ·exact z.elim⟩
theorem z02(hmd:md.Rep=zo6 (zb3 L))(hi:i<L.n):Part md (zdm i) (BAt i (L.bb i)) (L.bb i) TS2 :=
 ⟨fun{m own w} h=>by rw[hmd] at h;exact(show zb3 L m.st own w from h).bo i hi,fun{m own own' w w' v} hh hk hv=>by
  rw[hmd] at hh⊢;have h:zb3 L m.st own w:=hh;obtain⟨p,c1,_⟩:=(h.bo i hi).cell;refine(show zb3 L _ own' w' from⟨h.n,fun j hj=>(h.wo j hj).keep (hk.sh _ (h.wo j hj).sh (zej (h.wo j hj).at_ c1 (by decide))),fun j hj=>(h.fl j hj).keep (hk.sh _ (h.fl j hj).sh (zej (h.fl j hj).at_ c1 (by decide))),fun j hj=>?_,h.wd,h.fd,h.bd⟩)
  show BAt j (L.bb j) ⟨upd m.st.B i v.v j,upd m.st.Ser i v.ser j,v.top⟩ _ _;by_cases e:j=i
  ·subst e;rw[upd_same,upd_same];exact hv
  ·rw[upd_ne _ _ e,upd_ne _ _ e];obtain⟨q,d1,d2⟩:=(h.bo j hj).cell;have hq:=hk.sh _ (h.bo j hj).sh fun z=>e (h.bd j i hj hi z);exact⟨hq.1,⟨q,hq.2.trans d1,d2.keep fun b v _ q=>hk.tag b v q⟩,hv.inj,hv.top⟩⟩
end
def zbo(s:za7)(o:OpD):Ans×za7 :=
 if o.kind=1 then(⟨true,s.W 0,[]⟩,s)
 else if o.kind=2 then(⟨true,0,[]⟩,(zcc 0).put o.b s)
 else if o.kind=3 then(⟨true,zbk (s.W 0) o.b,[]⟩,(zcc 0).put (zbk (s.W 0) o.b) s)
 else if o.kind=4 then(⟨true,s.W 0,[]⟩,(zcc 0).put o.b s)
 else if o.kind=5 then(if s.W 0=o.b then(⟨true,0,[]⟩,(zcc 0).put o.c s) else(⟨false,0,[]⟩,s))
 else if o.kind=6 then(match grT o.b (s.W 0) with|none=>(⟨false,s.W 0,[]⟩,s)|some y=>(⟨true,y,[]⟩,(zcc 0).put y s))
 else if o.kind=7 then(match leT o.b (s.W 0) with|none=>(⟨false,s.W 0,[]⟩,s)|some y=>(⟨true,y,[]⟩,(zcc 0).put y s))
 else if o.kind=8 then(match buT o.b o.c (s.W 0) with|none=>(⟨false,s.W 0,[]⟩,s)|some y=>(⟨true,y,[]⟩,(zcc 0).put y s))
 else if o.kind=9 then(⟨s.F 0,0,[]⟩,s)
 else if o.kind=10 then(⟨!s.F 0,0,[]⟩,(zhl 0).put true s)
 else if o.kind=11 then(⟨s.F 0,0,[]⟩,(zhl 0).put false s)
 else if o.kind=12 then(⟨true,s.B 0,[]⟩,s)
 else if o.kind=13 then(⟨true,0,[]⟩,(zdm 0).put (((zdm 0).get s).lay o.b) s)
 else if o.kind=14 then(⟨true,s.B 0,[]⟩,(zdm 0).put (((zdm 0).get s).lay o.b) s)
 else if o.kind=15 then(⟨true,zbk (s.B 0) o.b,[]⟩,(zdm 0).put (((zdm 0).get s).lay (zbk (s.B 0) o.b)) s)
 else(⟨false,0,[]⟩,s)
def ze2(s:za7)(o:OpD):Nat :=
 if o.kind=6 then(match grT o.b (s.W 0) with|none=>1|some _=>2)
 else if o.kind=7 then(match leT o.b (s.W 0) with|none=>1|some _=>2)
 else if o.kind=8 then(match buT o.b o.c (s.W 0) with|none=>1|some _=>2)
 else if o.kind=15 then 2
 else if 1≤o.kind∧o.kind≤14 then 1 else 0
theorem ztq(s:za7)(o:OpD):ze2 s o≤2:=by
 unfold ze2;split
 ·split<;>omega
 ·split
  ·split<;>omega
  ·split
   ·split<;>omega
   ·split
    ·omega
    ·split<;>omega
theorem zsl(s:za7)(o:OpD):(zbo s o).1.l=[]:=by
 unfold zbo;by_cases k1:o.kind=1
 ·rw[if_pos k1]
 rw[if_neg k1];by_cases k2:o.kind=2
 ·rw[if_pos k2]
 rw[if_neg k2];by_cases k3:o.kind=3
 ·rw[if_pos k3]
 rw[if_neg k3];by_cases k4:o.kind=4
 ·rw[if_pos k4]
 rw[if_neg k4];by_cases k5:o.kind=5
 ·rw[if_pos k5];split<;>rfl
 rw[if_neg k5];by_cases k6:o.kind=6
 ·rw[if_pos k6];split<;>rfl
 rw[if_neg k6];by_cases k7:o.kind=7
 ·rw[if_pos k7];split<;>rfl
 rw[if_neg k7];by_cases k8:o.kind=8
 ·rw[if_pos k8];split<;>rfl
 rw[if_neg k8];by_cases k9:o.kind=9
 ·rw[if_pos k9]
 rw[if_neg k9];by_cases k10:o.kind=10
 ·rw[if_pos k10]
 rw[if_neg k10];by_cases k11:o.kind=11
 ·rw[if_pos k11]
 rw[if_neg k11];by_cases k12:o.kind=12
 ·rw[if_pos k12]
 rw[if_neg k12];by_cases k13:o.kind=13
 ·rw[if_pos k13]
 rw[if_neg k13];by_cases k14:o.kind=14
 ·rw[if_pos k14]
 rw[if_neg k14];by_cases k15:o.kind=15
 ·rw[if_pos k15]
 rw[if_neg k15]
section
variable{s:za7}{an:Nat→List Ans}{κ:Ans→Fu (SM za7)}{f:Nat}{o:OpD}
theorem zoz{tst:Int→Option Int}{κ':Int→Bool→Fu (SM za7)}:AlS (match tst (s.W 0) with|none=>1|some _=>2) (zbt (zcc 0) tst κ' (f+1) ⟨s,an⟩) (match tst (s.W 0) with|none=>κ' (s.W 0) false ⟨s,an⟩|some y=>κ' y true ⟨(zcc 0).put y s,an⟩):=by
 show AlS _ (zd7 (zcc 0) (fun x=>zb6 (zcc 0) tst κ' (zbt (zcc 0) tst κ' f) x) ⟨s,an⟩) _;cases h:tst (s.W 0) with
 | none =>
  refine AlS.stepF (k:=0) ?_;show AlS 0 (zb6 (zcc 0) tst κ' _ (s.W 0) ⟨s,an⟩) _;rw[zep h];exact .zero
 | some y =>
  refine AlS.stepF (k:=1) ?_;show AlS 1 (zb6 (zcc 0) tst κ' _ (s.W 0) ⟨s,an⟩) _;rw[zeo h];refine AlS.stepF (k:=0) ?_;refine .of_eq ?_;unfold zf6;exact(if_pos rfl).trans rfl
theorem zo0:AlS (ze2 s o) (zos (zcc 0) (zhl 0) (zdm 0) (f+1) o κ ⟨s,an⟩) (κ (zbo s o).1 ⟨(zbo s o).2,an⟩):=by
 unfold ze2 zos zbo;by_cases k1:o.kind=1
 ·simp only[k1];exact AlS.stepF (k:=0) .zero
 simp only[if_neg k1];by_cases k2:o.kind=2
 ·simp only[k2];exact AlS.stepF (k:=0) .zero
 simp only[if_neg k2];by_cases k3:o.kind=3
 ·simp only[k3];exact AlS.stepF (k:=0) .zero
 simp only[if_neg k3];by_cases k4:o.kind=4
 ·simp only[k4];exact AlS.stepF (k:=0) .zero
 simp only[if_neg k4];by_cases k5:o.kind=5
 ·simp only[k5];refine AlS.stepF (k:=0) (.of_eq ?_);unfold zf6;by_cases q:s.W 0=o.b
  ·exact(if_pos q).trans (by simp only[if_pos q];rfl)
  ·exact(if_neg q).trans (by simp only[if_neg q,if_true])
 simp only[if_neg k5];by_cases k6:o.kind=6
 ·simp only[if_pos k6];have:=zoz (s:=s) (an:=an) (f:=f) (tst:=grT o.b) (κ':=fun r t=>κ ⟨t,r,[]⟩);cases h:grT o.b (s.W 0)<;>(rw[h] at this;exact this)
 simp only[if_neg k6];by_cases k7:o.kind=7
 ·simp only[if_pos k7];have:=zoz (s:=s) (an:=an) (f:=f) (tst:=leT o.b) (κ':=fun r t=>κ ⟨t,r,[]⟩);cases h:leT o.b (s.W 0)<;>(rw[h] at this;exact this)
 simp only[if_neg k7];by_cases k8:o.kind=8
 ·simp only[if_pos k8];have:=zoz (s:=s) (an:=an) (f:=f) (tst:=buT o.b o.c) (κ':=fun r t=>κ ⟨t,r,[]⟩);cases h:buT o.b o.c (s.W 0)<;>(rw[h] at this;exact this)
 simp only[if_neg k8];by_cases k15:o.kind=15
 ·simp only[k15];refine AlS.stepF (k:=1) (AlS.stepF (k:=0) (.of_eq ?_));unfold xcasP;exact(if_pos rfl).trans rfl
 simp only[if_neg k15];by_cases k9:o.kind=9
 ·simp only[k9];exact AlS.stepF (k:=0) .zero
 simp only[if_neg k9];by_cases k10:o.kind=10
 ·simp only[k10];exact AlS.stepF (k:=0) .zero
 simp only[if_neg k10];by_cases k11:o.kind=11
 ·simp only[k11];exact AlS.stepF (k:=0) .zero
 simp only[if_neg k11];by_cases k12:o.kind=12
 ·simp only[k12];exact AlS.stepF (k:=0) .zero
 simp only[if_neg k12];by_cases k13:o.kind=13
 ·simp only[k13];exact AlS.stepF (k:=0) .zero
 simp only[if_neg k13];by_cases k14:o.kind=14
 ·simp only[k14];exact AlS.stepF (k:=0) .zero
 simp only[if_neg k14];rw[if_neg (by omega)];exact .zero
end
theorem z2e(w:World)(sb x:Nat)(hx:x<4611686018427387904)(h:w.heap[sb]?=some (.cells #[.int .i64 x] 83 (0,0))):Calls Try.prog 209 #[.pointer (some ⟨sb,0,none⟩)] w fun e w'=>e = .returned (.tuple #[])∧Sim w' (w.setCell ⟨sb,0,none⟩ (.int .i64 (x+1:Nat))):=by
 have c0:=zab h 0;have f0:=zam h 0;simp only[yac,yaa] at c0;have e1:IntKind.i64.wrap ((x:Int)+1)=((x+1:Nat):Int):=by rw[IntKind.wrap_i64];omega
 replace h:=yay h;replace hx:=yay hx;go_enter Try.func209,Try.ntmps209
 go_wp2_with fail
 go_end0
 exact⟨rfl,by rw[Int.natCast_add];exact .refl _⟩
theorem z3x:zyf 81 83 209:=⟨fun a w=>by kernel_rfl,zgq zag (by kernel_rfl) (by kernel_rfl) (by kernel_rfl),⟨_,Try.func209,by kernel_rfl,by kernel_rfl⟩,fun w sb x hx h=>z2e w sb x hx h⟩
open Classical in
noncomputable def zmj(own:Nat→Owner)(n sb:Nat):Nat→Owner:=fun b=>if b=sb then .tun else zfb own n b
def zym(x:Nat):Obj := .cells #[.int .i64 x] 83 (0,0)
section
variable{S:Type}{R:S→(Nat→Owner)→World→Prop}{B:Nat→Prop}{Z:Machine→Trace→Prop}{Q:Nat→SM S→Prop}{o:Os×Array (Nat×ByteArray)}{sb:Nat}{s s':S}{own:Nat→Owner}{w:World}{c:Frame}{cs:List Frame}
abbrev tMd(R:S→(Nat→Owner)→World→Prop)(sb:Nat)(Z:Machine→Trace→Prop)(Q:Nat→SM S→Prop)(o:Os×Array (Nat×ByteArray)):Md (SM S):=z3w (zo6 R) 0 Z Q o 81 83 sb
theorem z4k(F:zg0 R):(tMd R sb Z Q o).Ok:=z3v (z7q F) z3x
theorem FW.ctxC(F:zg0 R)(h:FW R B s own w){x:Nat}(hs:own sb = .out)(hc:w.heap[sb]?=some (zym x)):(tMd R sb Z Q o).C x (zmj own w.heap.size sb) (fun _=>False) ⟨w.heap,⟨s,fun _=>[]⟩,zmj own w.heap.size sb⟩ w ⟨s,fun _=>[]⟩:=by
 have qr:=(yah.1 hc).1;refine⟨⟨if_pos rfl,hc⟩,?_,fun b hb=>?_,fun b hb=>hb.elim,rfl,.refl⟩
 ·refine F.keep h.rep (fun b c t f hb _ _ _=>⟨?_,rfl⟩) (fun b v _ hb=>⟨?_,rfl⟩) fun b v hb=>?_
  ·unfold zmj zfb;rw[if_neg fun z=>by rw[z,hs] at hb;cases hb];rw[hb];simp
  ·unfold zmj zfb;rw[if_neg fun z=>by rw[z,hs] at hb;cases hb];rw[hb];simp
  ·unfold zmj zfb at hb;split at hb
   ·cases hb
   split at hb
   ·cases hb;exact .inr (by omega)
   ·exact .inl hb
 ·unfold zmj zfb;rw[if_neg (by omega),if_neg (by omega)];exact h.new b hb
theorem FW.afterC(F:zq1 R B){A₁:Nat→Prop}{w₁:W0 (SM S)}(h:FW R B s own w){x:Nat}(hs:own sb = .out)(hc:w.heap[sb]?=some (zym x)){y:Nat}{own4:Nat→Owner}{w4:World}{m4:SM S}(C:(tMd R sb Z Q o).C y own4 A₁ w₁ w4 m4)(L:Less 0 (fun _=>False) ⟨w.heap,⟨s,fun _=>[]⟩,zmj own w.heap.size sb⟩ A₁ w₁)(hm:m4=⟨s',fun _=>[]⟩)(hk:w4.os=w.os∧w4.output=w.output) :
  FW R B s' (zfa B own4) w4∧z0r sb own (zfa B own4) w w4∧w4.heap[sb]?=some (zym y):=by
 have qr:=(yah.1 hc).1;obtain⟨os4,oc4⟩:=C.side;have tg:∀b,b<w.heap.size→b≠sb→own b = .out→own4 b = .tag 0∧w4.heap[b]?=w.heap[b]?:=fun b hb hn ho=>by
  have h1:zmj own w.heap.size sb b = .tag 0:=(if_neg hn).trans (if_pos ⟨ho,hb⟩);obtain⟨q1,q2⟩:=L.tag b 0 h1;obtain⟨q3,q4⟩:=C.tg b 0 q1;exact⟨q3,q4.trans q2⟩
 have hrep:R m4.st own4 w4:=C.rep;rw[hm] at hrep;have hsh:=F.sh hrep;have hs4:w.heap.size≤w4.heap.size:=by
  rcases Nat.lt_or_ge w4.heap.size w.heap.size with z|z
  ·have hne:w4.heap.size≠sb:=fun e=>by
    have:=(yah.1 oc4).1;omega
   by_cases ho:own w4.heap.size = .out
   ·have h1:=(tg _ z hne ho).1;rw[C.fresh _ (yax _)] at h1;cases h1
   ·rcases h.pub _ ho with h1|⟨v,_,h1⟩
    ·have:=(hsh _ h1).2;omega
    ·have h3:zmj own w.heap.size sb w4.heap.size = .tag v:=(if_neg hne).trans ((if_neg fun q=>ho q.1).trans h1);obtain⟨q1,_⟩:=L.tag _ v h3;have h4:=(C.tg _ v q1).1;rw[C.fresh _ (yax _)] at h4;cases h4
  ·exact z
 have hout:∀b,¬B b→(¬∃t,0<t∧own4 b = .tag t)→zfa B own4 b = .out:=fun b h1 h2=>by
  unfold zfa;rw[if_neg h1,if_neg h2]
 refine⟨⟨F.keep hrep (fun b hb=>⟨by unfold zfa;rw[if_pos hb],rfl⟩) (fun b v hv hb=>⟨?_,rfl⟩) fun b v hb=>?_,fun b hb=>hout b (fun z=>?_) ?_,fun b hb=>?_⟩,⟨fun b hb hn ho=>⟨hout b ?_ ?_,(tg b hb hn ho).2⟩,hout sb ?_ ?_,hs4,hk⟩,oc4⟩
 ·have hne:¬B b:=fun z=>by rw[(hsh b z).1] at hb;cases hb
  unfold zfa;rw[if_neg hne,if_pos ⟨v,hv,hb⟩];exact hb
 ·unfold zfa at hb;split at hb
  ·cases hb
  ·split at hb
   ·exact .inl hb
   ·cases hb
 ·have:=(hsh b z).2;omega
 ·rintro⟨t,_,z⟩;rw[C.fresh b hb] at z;cases z
 ·unfold zfa at hb⊢;split
  ·rename_i z;exact .inl z
  ·rename_i z;rw[if_neg z] at hb;split at hb
   ·rename_i q;obtain⟨t,h1,h2⟩:=q;rw[if_pos ⟨t,h1,h2⟩];exact .inr ⟨t,h1,h2⟩
   ·exact absurd rfl hb
 ·intro z;have h1:=(tg b hb hn ho).1;rw[(hsh b z).1] at h1;cases h1
 ·rintro⟨t,h0,z⟩;rw[(tg b hb hn ho).1] at z;cases z;omega
 ·intro z;rw[(hsh sb z).1] at os4;cases os4
 ·rintro⟨t,h0,z⟩;rw[os4] at z;cases z
end
section
variable{wb fb bb sb:Nat}{Z:Machine→Trace→Prop}{s:za7}{own:Nat→Owner}{w:World}{c:Frame}{cs:List Frame}{o:OpD}
abbrev ThW(wb fb bb:Nat)(s:za7)(own:Nat→Owner)(w:World):Prop:=FW (zb3 (TL wb fb bb)) (ThB wb fb bb) s own w
open Classical in
theorem zyq(G0:ThW wb fb bb s own w)(ho:o.Ok)(h:∀own' w' v,ThW wb fb bb (zbo s o).2 own' w'→Left own own' w w'→LRow .out 0 own' w' v []→(∀b,v.ownBlock=some b→w.heap.size≤b∨own b ≠ .out)→RM Try.prog Z (G (c.finish (zf9 (zbo s o).1 v)) cs) w') :
  RM Try.prog Z (G (Frame.enter Try.prog 35 #[.agg #[gpv wb,gpv fb,gpv bb],.nilIface,opV o] .normal) (c::cs)) w:=by
 have hF:FF (fun(_:Nat) m=>m=⟨(zbo s o).2,fun _=>[]⟩) (zos (zcc 0) (zhl 0) (zdm 0) 1 o (fun r=>if r=(zbo s o).1 then zqm else zi6)) 0 ⟨s,fun _=>[]⟩:=by
  refine AlS.ff (zo0 (f:=0)) (by have:=ztq s o;omega) ?_;show z1o _ ((if (zbo s o).1=(zbo s o).1 then zqm else zi6) _).2 _ ((if (zbo s o).1=(zbo s o).1 then zqm else zi6) _).1;rw[if_pos rfl];exact rfl
 have:=zqr (md:=zo4 (zo6 (zb3 (TL wb fb bb))) 0 Z (fun _ m=>m=⟨(zbo s o).2,fun _=>[]⟩) (w.os,w.output)) (lo:=0) (A:=fun _=>False) (w₀:=⟨w.heap,⟨s,fun _=>[]⟩,zfb own w.heap.size⟩) (c:=c) (cs:=cs) (ib:=0) (zqb famTh.ok) (z00 (L:=TL wb fb bb) (i:=0) rfl Nat.one_pos) (z01 (L:=TL wb fb bb) (i:=0) rfl Nat.one_pos) (z02 (L:=TL wb fb bb) (i:=0) rfl Nat.one_pos) (by decide) 1 (fun _=>Nat.zero_le _) (κ:=fun r=>if r=(zbo s o).1 then zqm else zi6) ho trivial (fun r v y own4 w4 m4 C4 hL _ hk hQ=>?_) (G0.ctx famTh.ok) ⟨rfl,rfl⟩ hF
 ·exact this
 ·by_cases hr:r=(zbo s o).1
  ·subst hr;rw[if_pos rfl] at hQ;obtain⟨G1,L1,_⟩:=G0.after famTh C4 .refl (show m4=_ from hQ) hk
   have hsh:=famTh.sh (show zb3 (TL wb fb bb) m4.st own4 w4 from C4.rep)
   rw[zsl] at hL;refine h _ _ v G1 L1 ⟨hL.row,fun b hb=>?_⟩ fun b hb=>?_
   rotate_left
   ·rcases Nat.lt_or_ge b w.heap.size with z|z
    ·refine .inr fun ho=>?_;have h1:=hL.mine b hb;rw[(C4.tg b 0 (if_pos ⟨ho,z⟩)).1] at h1;cases h1
    ·exact .inl z
   have h1:=hL.mine b hb;have hne:¬ThB wb fb bb b:=fun z=>by rw[(hsh b z).1] at h1;cases h1
   unfold zfa;rw[if_neg hne,if_neg (by rintro⟨t,_,z⟩;rw[h1] at z;cases z)]
  ·rw[if_neg hr] at hQ;exact hQ.elim
open Classical in
theorem zyr(G0:ThW wb fb bb s own w)(ho:o.Ok){x:Nat}(hs:own sb = .out)(hc:w.heap[sb]?=some (zym x))(hx:x+ze2 s o<4611686018427387904)
  (h:∀own' w' v,ThW wb fb bb (zbo s o).2 own' w'→z0r sb own own' w w'→w'.heap[sb]?=some (zym (x+ze2 s o))→LRow .out 0 own' w' v []→(∀b,v.ownBlock=some b→b≠sb∧(w.heap.size≤b∨own b ≠ .out))→RM Try.prog Z (G (c.finish (zf9 (zbo s o).1 v)) cs) w') :
  RM Try.prog Z (G (Frame.enter Try.prog 35 #[.agg #[gpv wb,gpv fb,gpv bb],.iface 81 (.pointer (some ⟨sb,0,none⟩)),opV o] .normal) (c::cs)) w:=by
 have hF:FF (fun y m=>m=⟨(zbo s o).2,fun _=>[]⟩∧y=x+ze2 s o) (zos (zcc 0) (zhl 0) (zdm 0) 1 o (fun r=>if r=(zbo s o).1 then zqm else zi6)) x ⟨s,fun _=>[]⟩:=by
  refine AlS.ff (zo0 (f:=0)) (by omega) ?_;show z1o _ ((if (zbo s o).1=(zbo s o).1 then zqm else zi6) _).2 _ ((if (zbo s o).1=(zbo s o).1 then zqm else zi6) _).1;rw[if_pos rfl];exact⟨rfl,rfl⟩
 have:=zqr (md:=tMd (zb3 (TL wb fb bb)) sb Z (fun y m=>m=⟨(zbo s o).2,fun _=>[]⟩∧y=x+ze2 s o) (w.os,w.output)) (lo:=0) (A:=fun _=>False) (w₀:=⟨w.heap,⟨s,fun _=>[]⟩,zmj own w.heap.size sb⟩) (c:=c) (cs:=cs) (ib:=0) (z4k famTh.ok) (z00 (L:=TL wb fb bb) (i:=0) rfl Nat.one_pos) (z01 (L:=TL wb fb bb) (i:=0) rfl Nat.one_pos) (z02 (L:=TL wb fb bb) (i:=0) rfl Nat.one_pos) (by decide) 1 (fun _=>Nat.zero_le _) (κ:=fun r=>if r=(zbo s o).1 then zqm else zi6) ho trivial (fun r v y own4 w4 m4 C4 hL _ hk hQ=>?_) (G0.ctxC famTh.ok hs hc) ⟨rfl,rfl⟩ hF
 ·exact this
 ·by_cases hr:r=(zbo s o).1
  ·subst hr;rw[if_pos rfl] at hQ;obtain⟨hm,hy⟩:m4=_∧y=_:=hQ;obtain⟨G1,L1,hcnt⟩:=G0.afterC famTh hs hc C4 .refl hm hk;rw[hy] at hcnt;have hsh:=famTh.sh (show zb3 (TL wb fb bb) m4.st own4 w4 from C4.rep)
   obtain⟨os4,_⟩:=C4.side;rw[zsl] at hL;refine h _ _ v G1 L1 hcnt ⟨hL.row,fun b hb=>?_⟩ fun b hb=>⟨fun z=>?_,?_⟩
   ·have h1:=hL.mine b hb;have hne:¬ThB wb fb bb b:=fun z=>by rw[(hsh b z).1] at h1;cases h1
    unfold zfa;rw[if_neg hne,if_neg (by rintro⟨t,_,z⟩;rw[h1] at z;cases z)]
   ·have h1:=hL.mine b hb;rw[z,os4] at h1;cases h1
   ·rcases Nat.lt_or_ge b w.heap.size with z|z
    ·refine .inr fun ho=>?_;have h1:=hL.mine b hb;by_cases e:b=sb
     ·rw[e,os4] at h1;cases h1
     ·rw[(C4.tg b 0 ((if_neg e).trans (if_pos ⟨ho,z⟩))).1] at h1;cases h1
    ·exact .inl z
  ·rw[if_neg hr] at hQ;exact hQ.elim
end
theorem zei{P:Program}{Z:Machine→Trace→Prop}{b:Frame}{a:Act}{k:List Item}{cs:List Frame}{w:World}{ops:Array Oper}{i:Nat}{rest:List Nat}{o:Oper}{v:Value}(ho:ops[i]?=some o)(hw:Region.wanted o (yielded ops a.tmps)=true)(hk:b.kind ≠ .early)(hc:zcw true P (fun _=>False) o)
  (hr:∀wp,Sim wp w→(execOp a.eval o).run P wp = .ok (.value v) wp) (h:RM P Z (G (b.at (a.put o.dst v) (.inRegion ops rest::k)) cs) w):RM P Z (G (b.at a (.inRegion ops (i::rest)::k)) cs) w :=
 z4e rm_xc (zb1 w) ho hw hk hc (n := .value v) (.inl rfl) (hr _ (by rw[zds];exact .refl _)) rfl fun d w1 h1 h2 h3=>by
  have hw1:w1=w.at d:=zh2 h2.okd (show Okd _ (w.at d) from(zb1 w).okd) h1
  subst hw1;exact rm_xc.at_ _ _ _ h
theorem ziy(w:World)(b:Nat)(r:Ans)(v:Value):(zkk w b r v).os=w.os∧(zkk w b r v).output=w.output:=⟨rfl,rfl⟩
section
variable{Z:Machine→Trace→Prop}{c:Frame}{cs:List Frame}{w0 w:World}{gz gw N:Nat}{s:GateS}{o:OpD}{z:Nat→Value}{oz ow:Nat→Owner}{R:List Item}
end
noncomputable def c4:Code:=(Try.f4.body).getD .skip
noncomputable def mk(sb:Nat)(o:Nat→Owner):Nat→Owner:=upd o sb .tun
theorem mk_out{sb b:Nat}{o:Nat→Owner}:mk sb o b = .out↔b≠sb∧o b = .out:=by
 unfold mk;by_cases h:b=sb
 ·subst h;rw[upd_same];simp
 ·rw[upd_ne _ _ h];simp[h]
section
variable{w0 w w':World}{gz gw sb n n':Nat}{sz sw s':GateS}{oz ow o':Nat→Owner}
end
section
variable{w0 w w':World}{gz gw sb jj b off len cap n:Nat}{s:GateS}{o:OpD}{z x:Nat→Value}{qz:Array Bool}{oz ow oz' ow':Nat→Owner}
end
section
variable{Z:Machine→Trace→Prop}{c:Frame}{cs:List Frame}{w0 w:World}{gz gw sb N jj b off len cap n:Nat}{s:GateS}{o:OpD}{z:Nat→Value}{oz ow:Nat→Owner}{R:List Item}
end
theorem prgS:Prg true Try.prog (·∈[22,23,24,26,83,84,87]):=zgq zag (by kernel_rfl) (by kernel_rfl) (by kernel_rfl)
theorem zly{w w':World}(h:Below w.heap.size w w'):LeftW w w':=⟨fun b hb=>h.block b hb,h.size,h.os,h.output⟩
theorem zta{w w':World}(τ:Nat→Question→Nat)(d:Nat)(h:LeftW w w'):LeftW w (re τ d w'):=⟨h.same,h.size,h.outs⟩
theorem zw1{w w':World}{τ:Nat→Question→Nat}{d:Nat}(h:LeftW (re τ d w) w'):LeftW w w':=⟨h.same,h.size,h.outs⟩
section
variable{Z:Machine→Trace→Prop}{c:Frame}{cs:List Frame}{w:World}
theorem zun{a b:Value}{l:List Ans}(hll:∀r∈l,r.l.length≤1000000000)(ha:AnsIn w a l)(hb:AnsIn w b l)(hl:l.length≤1000000000)(h:∀w',LeftW w w'→RM Try.prog Z (G (c.finish (.bool true)) cs) w'):RM Try.prog Z (G (Frame.enter Try.prog 22 #[a,b] .normal) (c::cs)) w :=
 zha prgS (f:=22) (by simp) (R:=fun v w'=>v = .bool true∧LeftW w w') (fun v w' τ d hx=>⟨hx.1,zta τ d hx.2⟩)
  (fun τ d=>(zum (w:=re τ d w) hll (AnsIn.keep (w:=w) (w':=re τ d w) (fun _ _=>rfl) ha) (AnsIn.keep (w:=w) (w':=re τ d w) (fun _ _=>rfl) hb) hl).mono fun e w' ⟨he,hb⟩=>⟨_,he,rfl,zw1 (zly hb)⟩)
  fun v w' ⟨e,L⟩=>by subst e;exact h w' L
end
theorem zjn{w:World}{v:Value}{l:List Int}(h:IntsAt w v l):∃a c,v = .slice a l.length c:=by obtain⟨a,c,e,_⟩:=h;exact⟨a,c,e⟩
section
variable{Z:Machine→Trace→Prop}{c:Frame}{cs:List Frame}{w0 w:World}{gz gw N K K':Nat}{s:GateS}{o:OpD}{r:Ans}{u1 u2:Value}{z:Nat→Value}{oz ow:Nat→Owner}{R:List Item}
end
theorem zqx{w:World}{M:Nat}{r r':Ans}{u u':Value}{t:TypeId}(h:w.heap[M]?=some (.cells #[.bool r.ok,.int .i64 r.n,u,.bool r'.ok,.int .i64 r'.n,u'] t (0,0)))(hi:IntsAt w u r.l)(hi':IntsAt w u' r'.l):AnsIn w (.slice (some ⟨M,0,none⟩) 2 2) [r,r'] :=
 ⟨_,_,rfl,fun _=>⟨M,0,rfl,fun j x hj=>by
  rcases j with _|_|j
  ·obtain rfl:r=x:=by simpa using hj
   exact⟨zab h 0,zab h 1,u,zab h 2,hi⟩
  ·obtain rfl:r'=x:=by simpa using hj
   exact⟨zab h 3,zab h 4,u',zab h 5,hi'⟩
  ·simp at hj⟩⟩
theorem z0z{P:Program}{Z:Machine→Trace→Prop}{b:Frame}{a:Act}{k:List Item}{cs:List Frame}{w w2:World}{ops:Array Oper}{i:Nat}{rest:List Nat}{o:Oper}{v:Value}(ho:ops[i]?=some o)(hw:Region.wanted o (yielded ops a.tmps)=true)(hk:b.kind ≠ .early)(hc:zcw true P (fun _=>False) o)
  (hr:(execOp a.eval o).run P w = .ok (.value v) w2) (hdr:w2.drawn=w.drawn) (h:∀w1,Sim w1 w2→RM P Z (G (b.at (a.put o.dst v) (.inRegion ops rest::k)) cs) w1):RM P Z (G (b.at a (.inRegion ops (i::rest)::k)) cs) w :=
 z4e rm_xc (zb1 w) ho hw hk hc (n := .value v) (.inl rfl) (by rw[zds];exact hr) hdr fun d w1 e _ _=>h w1 (by rw[zds] at e;subst e;exact⟨w.tape,d,rfl⟩)
theorem Tab.at{tv:Nat→Option Value}{d j s:Nat}{v:Value}{qz:Array Bool}{x:Nat→Value}(h:Tab tv d qz x)(hl:qz.getD j false=true)(ht:tv j=some v)(hs:d+j=s):x s=v:=hs▸h j v ht hl
section
variable{W w w':World}{tv:Nat→Option Value}{r:Ans}{z x:Nat→Value}{qz:Array Bool}
end
section
variable{Z:Machine→Trace→Prop}{c:Frame}{cs:List Frame}{W:World}{N K K' ba oa ca bb ob ln cap jj:Nat}{r:Ans}{u1 u2 v3 vo vs st:Value}{z:Nat→Value}{R:List Item}
end
section
variable{Z:Machine→Trace→Prop}{gb:Nat}{s:GateS}{own:Nat→Owner}{w:World}{c:Frame}{cs:List Frame}
end
theorem zc1{o:Oper}{ops:Array Oper}{tmps:Array Value}{g sl:Nat}{b:Bool}(ho:o.guard=some (g,b))(hd:(ops[g]?).bind (·.dst)=some sl)(hy:tmps[sl]?=some (.bool b)):Region.wanted o (yielded ops tmps)=true:=by
 unfold Region.wanted yielded;rw[ho];simp only[hd,Option.bind_some,hy];cases b<;>rfl
section
variable{w0 w w':World}{gz gw sb n:Nat}{sz sw s':GateS}{oz ow o':Nat→Owner}
end
section
variable{w0 w w':World}{gz gw sb ol:Nat}{s:GateS}{tv:Nat→Option Value}{z x:Nat→Value}{qz:Array Bool}{oz ow oz' ow':Nat→Owner}
end
section
variable{Z:Machine→Trace→Prop}{cs:List Frame}{w0 W:World}{gz gw sb N bs os sl cst m ol co:Nat}{po:Option Addr}{s:GateS}{va:Value}{st:Bool}{z:Nat→Value}{oz ow:Nat→Owner}{R:List Item}
end
end Go.Proofs.Ytofacoojpgkbiaa
