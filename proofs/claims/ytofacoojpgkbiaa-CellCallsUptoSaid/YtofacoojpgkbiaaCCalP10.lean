/- Part of a proof. No condition. -/
import Derived.Test.YtofacoojpgkbiaaCCalPZH
import Derived.Test.YtofacoojpgkbiaaCCalP04
import Derived.Test.YtofacoojpgkbiaaCCalP09
import Derived.Test.YtofacoojpgkbiaaCCalP08
import Derived.Conc.TokenWords
set_option linter.unusedVariables false
set_option maxHeartbeats 8000000
set_option linter.unusedSimpArgs false
namespace Go.Proofs.Ytofacoojpgkbiaa
open Go.Conc
open Go.ConcN (upd upd_ne upd_same)
set_option maxRecDepth 100000
theorem zai{l:List Oper}(h:l.all (fun o=>zx1 true Try.prog [] z7a o.op)=true):∀o∈l,zcw true Try.prog (fun _=>False) o:=fun o ho=>by
 have:=zxz (z:=true) (P:=Try.prog) (L:=[]) zag (List.all_eq_true.1 h o ho);exact⟨this.nodefer,fun fr=>zcg (fun n hn=>by cases n<;>first|exact hn|exact(by cases hn)) (this.tame fr)⟩
section
variable{D:Nat→Option (Nat×Nat)}{P:Program}{main:Bool}{K:World→Prop}{Still:Loc→Prop}{Inb:Nat→Option Seat}{GO:Goroutine→World→Prop}{b:Frame}{a:Act}{k:List Item}{cs:List Frame}{w:World}{ops:Array Oper}{i:Nat}{rest:List Nat}{o:Oper}
theorem zae{wp:World}{N:Act→Goroutine}(hp:Sim wp (poi D w))(hO:Okd D w)(h:GO (N a) w):zj4 D GO w wp.drawn N .normal a wp:=⟨⟨rfl,rfl⟩,w,rfl,hO,hp,h⟩
theorem zev(v:Value)(ho:ops[i]?=some o):Go.Conc.served (G (b.at a (.inRegion ops (i::rest)::k)) cs) v=G (b.at (a.put o.dst v) (.inRegion ops rest::k)) cs:=by
 rw[served_fr,Frame.finish_at,ho];rfl
theorem zl9{Aft:Goroutine→Prop}{c:Nat}{v z':Value}(ho:ops[i]?=some o)(hw:Region.wanted o (yielded ops a.tmps)=true)(hk:b.kind ≠ .early)
  (hr:∀w,(execOp a.eval o).runT P w #[]=(.ok (.comm #[scase c v z'] true .send) w,#[])) (h:Aft (G (b.at (a.put o.dst undef) (.inRegion ops rest::k)) cs)):z1q P main c Aft (G (b.at a (.inRegion ops (i::rest)::k)) cs) w :=
 ⟨rfl,_,v,z',fun d=>by rw[stepG_comm ho hw hk (by rw[←zay (es:=#[]),hr]),listed_none (by have:=congrArg Prod.snd (hr (w.at d));rwa[Sem.runT_eq] at this)],by rw[zev _ ho];exact h⟩
theorem zvd(X:XC P main K Still Inb GO){v:Value}(ho:ops[i]?=some o)(hw:Region.wanted o (yielded ops a.tmps)=true)(hk:b.kind ≠ .early)
  (hr:∀w,(execOp a.eval o).runT P w #[]=(.halt (.panic v) w,#[])) (h:GO (G ((b.at a (.inRegion ops (i::rest)::k)).raise [{ v,recovered:=false }]) cs) w):GO (G (b.at a (.inRegion ops (i::rest)::k)) cs) w :=
 X.ctl rfl (fun w=>by
  have hk':(b.kind==CallKind.early)=false:=by simpa using hk
  rw[stepG_oper ho hw];have h1:(execOp a.eval o).run P w = .halt (.panic v) w:=by rw[←zay (es:=#[]),hr]
  have h2:(execOp a.eval o).events P w #[]=#[]:=by have:=congrArg Prod.snd (hr w);rwa[Sem.runT_eq] at this
  simp[stepG.apply,h1,h2,G,Frame.at,hk',GStep.after,seen_none]) h
theorem za3{α:Type}{s:Sem α}{r:Result α}(h1:s.run P w=r)(h2:s.events P w #[]=#[]):s.runT P w #[]=(r,#[]):=by
 rw[Sem.runT_eq,h1,h2]
end
section
variable{P:Program}{U:Tun}{main:Bool}{s:Seat}{b:Frame}{a:Act}{k:List Item}{cs:List Frame}{ops:Array Oper}{i:Nat}{rest:List Nat}{o:Oper}{g g':Goroutine}
theorem z4r{K:World→Prop}{DD:World→World→Array Event→Prop}{Stop:Goroutine→World→Prop}{n:Nat}{w w':World}(h:Goes P main (RK K) DD Stop n g w):Goes P main (RK K) DD Stop n g w':=by
 cases n with
 | zero=>exact h
 | succ n=>exact h
theorem zst(hs:g.status = .running)(h:zj3 P U main s g')(hst:∀w,U.K w→∃es,stepG P main g w = .go g' w es∧∀e∈es,∃a,e=⟨.cell a,false,false⟩∧U.Still (.cell a)):zj3 P U main s g:=by
 obtain⟨k,w,B0,h⟩:=h
 let B1:=max B0 (max (U.bx+1) (U.tu+1))+(List.range U.n).foldr (fun i n=>U.st i+1+n) 0
 have hb:∀i,i<U.n→U.st i<(List.range U.n).foldr (fun i n=>U.st i+1+n) 0:=by
  intro i hi;have:∀l:List Nat,i∈l→U.st i<l.foldr (fun i n=>U.st i+1+n) 0:=by
   intro l
   induction l with
   | nil=>intro h;cases h
   | cons x l ih =>
    intro h;rcases List.mem_cons.1 h with rfl|h
    ·simp only[List.foldr_cons];omega
    ·have:=ih h;simp only[List.foldr_cons];omega
  exact this _ (List.mem_range.2 hi)
 refine⟨k+1,w,B1,fun B hB=>Goes.step hs fun w₁ h₁=>?_⟩;obtain⟨es,he,hev⟩:=hst w₁ h₁;rw[he,goes_go];refine⟨⟨rfl,fun e hm=>?_⟩,z4r (h B (by omega))⟩;obtain⟨a,rfl,hS⟩:=hev e hm;refine⟨a,rfl,hS,?_⟩;rcases hS with q|q|⟨i,hi,q⟩
 ·cases q;show U.bx<B;omega
 ·cases q;show U.tu<B;omega
 ·cases q;have:=hb i hi;show U.st i<B;omega
theorem zed(h:zj3 P U main s g')(hs:g.status = .running)(hst:∀w,stepG P main g w = .go g' w #[]):zj3 P U main s g:=zst hs h fun w _=>⟨#[],hst w,by simp⟩
theorem zgb{v:Value}(ho:ops[i]?=some o)(hw:Region.wanted o (yielded ops a.tmps)=true)(hk:b.kind ≠ .early)(hr:∀w,(execOp a.eval o).runT P w #[]=(.ok (.value v) w,#[]))(h:zj3 P U main s (G (b.at (a.put o.dst v) (.inRegion ops rest::k)) cs)):zj3 P U main s (G (b.at a (.inRegion ops (i::rest)::k)) cs) :=
 zed h rfl fun w=>by rw[stepG_value ho hw hk (by rw[←zay (es:=#[]),hr]),listed_none (by have:=congrArg Prod.snd (hr w);rwa[Sem.runT_eq] at this)]
theorem zpf{v:Value}{x:Addr}(ho:ops[i]?=some o)(hw:Region.wanted o (yielded ops a.tmps)=true)(hk:b.kind ≠ .early)(hS:U.Still (.cell x))(hr:∀w,U.K w→(execOp a.eval o).runT P w #[]=(.ok (.value v) w,#[⟨.cell x,false,false⟩]))(h:zj3 P U main s (G (b.at (a.put o.dst v) (.inRegion ops rest::k)) cs)):zj3 P U main s (G (b.at a (.inRegion ops (i::rest)::k)) cs) :=
 zst rfl h fun w hK=>⟨_,stepG_value ho hw hk (by rw[←zay (es:=#[]),hr w hK]),fun e he=>by
  have hm:=mem_listed he;rw[show(execOp a.eval o).events P w #[]=#[⟨.cell x,false,false⟩] from by have:=congrArg Prod.snd (hr w hK);rwa[Sem.runT_eq] at this] at hm
  simp only[List.mem_toArray,List.mem_cons,List.not_mem_nil,or_false] at hm;exact⟨x,hm,hS⟩⟩
theorem zsu{c:Nat}{z:Value}{home:Goroutine→Prop}(ho:ops[i]?=some o)(hw:Region.wanted o (yielded ops a.tmps)=true)(hk:b.kind ≠ .early)(hr:∀w,(execOp a.eval o).runT P w #[]=(.ok (.comm #[rcase c z] true (.recv false)) w,#[]))(h:home (G (b.at a (.inRegion ops (i::rest)::k)) cs)):zj3 P U main (Seat.one c z false home) (G (b.at a (.inRegion ops (i::rest)::k)) cs) :=
 ⟨0,default,0,fun B _ w₁ _=>⟨_,atIn_of ho hw hk (fun w=>by rw[←zay (es:=#[]),hr];rfl) (fun w=>by have:=congrArg Prod.snd (hr w);rwa[Sem.runT_eq] at this) h⟩⟩
end
section
variable{M:Type}[Priv M]{Rep:M→(Nat→Owner)→World→Prop}{U:Tun}{i:Nat}{A:Nat→Prop}{w₀:W0 M}
def zsb(U:Tun):Value := .iface 321 (.agg #[.iface 298 (.pointer (some ⟨U.tu,0,none⟩))])
theorem zy1(qn:zc6 Rep){κ:Fu M}{c:Frame}{cs:List Frame}(qu:GOF Rep Try.prog U i κ A w₀ (G (c.finish (.tuple #[])) cs))(qq:zq2 Rep Try.prog U i A w₀ (G (c.raise [{ v:=zsb U,recovered:=false }]) cs)) :
  GOF Rep Try.prog U i (stepF κ) A w₀ (G (Frame.enter Try.prog 217 #[.pointer (some ⟨U.st i,0,none⟩)] .normal) (c::cs)):=by
 refine zgu fun w m own ov bv C=>?_;have X:=zdc (Rep:=Rep) (P:=Try.prog) (U:=U) (i:=i) (own:=own) (w:=w) (ov:=ov) (bv:=bv) (mc:=stepF κ m);replace qu:=yay qu;replace qq:=yay qq;rw[enter_at _ Try.func217 rfl];simp only[Try.ntmps217,yan,yau,yav,Nat.reduceAdd,Nat.reduceSub,yao,
   yap,yaq,yar,yas,yat]
 refine zpa X ?_;refine za5 X 8 (by decide) (by decide) (zai (by kernel_rfl)) C.seats fun wp hp=>?_;simp only[yad,yae];have h1:=ze8 (i:=0) (zh3 hp (C.tn.dst C.lt) (C.tn.st i C.lt));have h2:=ze8 (i:=0) (zh3 hp C.tn.dtu C.tn.tu);simp only[yac,yaa] at h1 h2;replace X:=yay X;replace hp:=yay hp
 go_wp2_with fail
 refine zae hp C.seats.okd fun d => .stop ?_;refine⟨own,A,?_,?_,.refl,.refl⟩
 ·refine zl9 (v := .agg #[]) (z' := .tuple #[]) rfl rfl (by decide) ?_ ?_
  ·intro w;exact za3 (by go_simp;rfl) (by simp[go_sem])
  ·rw[if_neg (by simp[stepF,Co.isFin])];refine zed ?_ rfl fun _=>stepG_region_end;refine zed ?_ rfl fun _=>stepG_seq;refine zed ?_ rfl fun _=>stepG_region;refine zgb (v:=?v1) rfl rfl (by decide) (fun w=>za3 ?h1 ?i1) ?n1
   case h1=>(go_simp;rfl)
   case i1=>(simp[go_sem])
   refine zgb (v:=?v2) rfl rfl (by decide) (fun w=>za3 ?h2 ?i2) ?n2
   case h2=>(go_simp;rfl)
   case i2=>(simp[go_sem])
   refine zgb (v:=?v3) rfl rfl (by decide) (fun w=>za3 ?h3 ?i3) ?n3
   case h3=>(go_simp;rfl)
   case i3=>(simp[go_sem])
   refine zpf (v := .chan (some (U.pass i))) rfl rfl (by decide) (.inr (.inr ⟨i,C.lt,rfl⟩)) (fun w hK=>?_) ?_
   ·have:=hK.st i C.lt;rw[Sem.runT_eq]
    go_simp
   refine zsu rfl rfl (by decide) (fun w=>za3 (by go_simp;rfl) (by simp[go_sem])) ?_;have hA:∀b,A b→A b∧(w.at d).heap[b]?=w₀.heap[b]?:=fun b hb=>⟨hb,(C.mine b hb).2⟩;refine z1y ?_ ?_
   ·rw[zev _ rfl];refine zgu fun w2 m2 qk ov2 bv2 C2=>?_;have X2:=zdc (Rep:=Rep) (P:=Try.prog) (U:=U) (i:=i) (own:=qk) (w:=w2) (ov:=ov2) (bv:=bv2) (mc:=κ m2);refine zjg X2 (rest:=[]) (by decide) [5] [_] _ _ rfl (zai (by kernel_rfl)) C2.seats rfl fun wp hp=>?_;clear h1 h2 X;replace hp:=yay hp;replace X2:=yay X2
    go_wp2_with fail
    refine zae hp C2.seats.okd ?_;refine zad X2 ?_;refine zau X2 (t:=false) rfl ?_;refine zbf X2 ?_;refine zkj X2 ?_;refine za4 X2 (zaa Try.func217) C2.seats ⟨rfl,rfl,rfl,_,Try.func217,results_none rfl _ _ _⟩ ?_;exact ze4 qn qu (C2.less hA C.pv C.tg) .refl .refl
   ·rw[zev _ rfl];refine zgu fun w2 m2 qk ov2 bv2 C2=>?_;have X2:=zdc (Rep:=Rep) (P:=Try.prog) (U:=U) (i:=i) (own:=qk) (w:=w2) (ov:=ov2) (bv:=bv2) (mc:=(m2,.fin));refine zjg X2 (rest:=[]) (by decide) [5] [_] _ _ rfl (zai (by kernel_rfl)) C2.seats rfl fun wp hp=>?_;clear h1 h2 X;replace hp:=yay hp;replace X2:=yay X2
    go_wp2_with fail
    refine zae hp C2.seats.okd ?_;refine zad X2 ?_;refine zau X2 (t:=true) rfl ?_;refine za5 X2 7 (by decide) (by decide) (zai (by kernel_rfl)) C2.seats fun wp hp=>?_;simp only[yad,yae];have h1:=ze8 (i:=0) (zh3 hp (C2.tn.dst C2.lt) (C2.tn.st i C2.lt));simp only[yac,yaa] at h1;replace hp:=yay hp
    go_wp2_with fail
    refine zae hp C2.seats.okd ?_;refine zvd (v:=zsb U) X2 rfl rfl (by decide) (fun w=>za3 (by go_simp;rfl) (by simp[go_sem,Instr.panic])) ?_;refine zrb X2 (zaa Try.func217) rfl rfl ?_;exact ze4 qn qq (C2.less hA C.pv C.tg) .refl .refl
 ·have C':=C.re qn (w':=w.at d) rfl;exact⟨C'.lt,C'.wf,C'.tn,C'.tun,C'.rep,C'.fresh,fun b hb=>⟨(C'.mine b hb).1,rfl⟩,C'.bf,rfl,.refl⟩
theorem zy0(qn:zc6 Rep){c:Frame}{cs:List Frame}(qq:zq2 Rep Try.prog U i A w₀ (G (c.raise [{ v:=zsb U,recovered:=false }]) cs)) :
  GOF Rep Try.prog U i zi6 A w₀ (G (Frame.enter Try.prog 217 #[.pointer (some ⟨U.st i,0,none⟩)] .normal) (c::cs)):=by
 refine zgu fun w m own ov bv C=>?_;have X:=zdc (Rep:=Rep) (P:=Try.prog) (U:=U) (i:=i) (own:=own) (w:=w) (ov:=ov) (bv:=bv) (mc:=zi6 m);replace qq:=yay qq;rw[enter_at _ Try.func217 rfl];simp only[Try.ntmps217,yan,yau,yav,Nat.reduceAdd,Nat.reduceSub,yao,
   yap,yaq,yar,yas,yat]
 refine zpa X ?_;refine za5 X 8 (by decide) (by decide) (zai (by kernel_rfl)) C.seats fun wp hp=>?_;simp only[yad,yae];have h1:=ze8 (i:=0) (zh3 hp (C.tn.dst C.lt) (C.tn.st i C.lt));have h2:=ze8 (i:=0) (zh3 hp C.tn.dtu C.tn.tu);simp only[yac,yaa] at h1 h2;replace X:=yay X;replace hp:=yay hp
 go_wp2_with fail
 refine zae hp C.seats.okd fun d => .stop ?_;refine⟨own,A,?_,?_,.refl,.refl⟩
 ·refine zl9 (v := .agg #[]) (z' := .tuple #[]) rfl rfl (by decide) ?_ ?_
  ·intro w;exact za3 (by go_simp;rfl) (by simp[go_sem])
  ·rw[if_neg (by simp[zi6,Co.isFin])];refine zed ?_ rfl fun _=>stepG_region_end;refine zed ?_ rfl fun _=>stepG_seq;refine zed ?_ rfl fun _=>stepG_region;refine zgb (v:=?v1) rfl rfl (by decide) (fun w=>za3 ?h1 ?i1) ?n1
   case h1=>(go_simp;rfl)
   case i1=>(simp[go_sem])
   refine zgb (v:=?v2) rfl rfl (by decide) (fun w=>za3 ?h2 ?i2) ?n2
   case h2=>(go_simp;rfl)
   case i2=>(simp[go_sem])
   refine zgb (v:=?v3) rfl rfl (by decide) (fun w=>za3 ?h3 ?i3) ?n3
   case h3=>(go_simp;rfl)
   case i3=>(simp[go_sem])
   refine zpf (v := .chan (some (U.pass i))) rfl rfl (by decide) (.inr (.inr ⟨i,C.lt,rfl⟩)) (fun w hK=>?_) ?_
   ·have:=hK.st i C.lt;rw[Sem.runT_eq]
    go_simp
   refine zsu rfl rfl (by decide) (fun w=>za3 (by go_simp;rfl) (by simp[go_sem])) ?_;have hA:∀b,A b→A b∧(w.at d).heap[b]?=w₀.heap[b]?:=fun b hb=>⟨hb,(C.mine b hb).2⟩;refine z4h ?_
   ·rw[zev _ rfl];refine zgu fun w2 m2 qk ov2 bv2 C2=>?_;have X2:=zdc (Rep:=Rep) (P:=Try.prog) (U:=U) (i:=i) (own:=qk) (w:=w2) (ov:=ov2) (bv:=bv2) (mc:=(m2,.fin));refine zjg X2 (rest:=[]) (by decide) [5] [_] _ _ rfl (zai (by kernel_rfl)) C2.seats rfl fun wp hp=>?_;clear h1 h2 X;replace hp:=yay hp;replace X2:=yay X2
    go_wp2_with fail
    refine zae hp C2.seats.okd ?_;refine zad X2 ?_;refine zau X2 (t:=true) rfl ?_;refine za5 X2 7 (by decide) (by decide) (zai (by kernel_rfl)) C2.seats fun wp hp=>?_;simp only[yad,yae];have h1:=ze8 (i:=0) (zh3 hp (C2.tn.dst C2.lt) (C2.tn.st i C2.lt));simp only[yac,yaa] at h1;replace hp:=yay hp
    go_wp2_with fail
    refine zae hp C2.seats.okd ?_;refine zvd (v:=zsb U) X2 rfl rfl (by decide) (fun w=>za3 (by go_simp;rfl) (by simp[go_sem,Instr.panic])) ?_;refine zrb X2 (zaa Try.func217) rfl rfl ?_;exact ze4 qn qq (C2.less hA C.pv C.tg) .refl .refl
 ·have C':=C.re qn (w':=w.at d) rfl;exact⟨C'.lt,C'.wf,C'.tn,C'.tun,C'.rep,C'.fresh,fun b hb=>⟨(C'.mine b hb).1,rfl⟩,C'.bf,rfl,.refl⟩
end
end Go.Proofs.Ytofacoojpgkbiaa
