/-
  A part of a proof. No condition of its own.
-/
import Derived.Test.YtofacoojpgkbiaaCBxPZH
import Derived.Test.YtofacoojpgkbiaaCBxP03
import Derived.Test.YtofacoojpgkbiaaCBxP08
import Derived.Test.YtofacoojpgkbiaaCBxP07
import Derived.Conc.TokenWords
set_option linter.unusedVariables false
set_option maxHeartbeats 8000000
set_option linter.unusedSimpArgs false
namespace Go.Proofs.Ytofacoojpgkbiaa
open Go.Conc
open Go.ConcN (upd upd_ne upd_same)
set_option maxRecDepth 100000
theorem zai {l:List Oper} (h:l.all (fun o=>ztm true Try.prog [] extL o.op)=true):∀ o∈l,zci true Try.prog (fun _=>False) o:=fun o ho=>by
 have:=ztk (z:=true) (P:=Try.prog) (L:=[]) zah (List.all_eq_true.1 h o ho);exact ⟨this.nodefer,fun fr=>zb2 (fun n hn=>by cases n<;>first|exact hn|exact (by cases hn)) (this.tame fr)⟩
section
variable {D:Nat→Option (Nat×Nat)} {P:Program} {main:Bool} {K:World→Prop} {Still:Loc→Prop} {Inb:Nat→Option Seat} {GO:Goroutine→World→Prop} {b:Frame} {a:Act} {k:List Item} {cs:List Frame} {w:World} {ops:Array Oper} {i:Nat} {rest:List Nat} {o:Oper}
theorem zag {wp:World} {N:Act→Goroutine} (hp:Sim wp (poi D w)) (hO:Okd D w) (h:GO (N a) w):zh1 D GO w wp.drawn N .normal a wp:=⟨⟨rfl,rfl⟩,w,rfl,hO,hp,h⟩
theorem zdw (v:Value) (ho:ops[i]?=some o):Go.Conc.served (G (b.at a (.inRegion ops (i::rest)::k)) cs) v=G (b.at (a.put o.dst v) (.inRegion ops rest::k)) cs:=by
 rw [served_fr,Frame.finish_at,ho];rfl
theorem zjw {Aft:Goroutine→Prop} {c:Nat} {v z':Value} (ho:ops[i]?=some o) (hw:Region.wanted o (yielded ops a.tmps)=true) (hk:b.kind ≠ .early)
  (hr:∀ w,(execOp a.eval o).runT P w #[]=(.ok (.comm #[scase c v z'] true .send) w,#[])) (h:Aft (G (b.at (a.put o.dst undef) (.inRegion ops rest::k)) cs)):zwh P main c Aft (G (b.at a (.inRegion ops (i::rest)::k)) cs) w :=
 ⟨rfl,_,v,z',fun d=>by rw [stepG_comm ho hw hk (by rw [← zar (es:=#[]),hr]),listed_none (by have:=congrArg Prod.snd (hr (w.at d));rwa [Sem.runT_eq] at this)],by rw [zdw _ ho];exact h⟩
theorem zq3 (X:XC P main K Still Inb GO) {v:Value} (ho:ops[i]?=some o) (hw:Region.wanted o (yielded ops a.tmps)=true) (hk:b.kind ≠ .early)
  (hr:∀ w,(execOp a.eval o).runT P w #[]=(.halt (.panic v) w,#[])) (h:GO (G ((b.at a (.inRegion ops (i::rest)::k)).raise [{ v,recovered:=false }]) cs) w):GO (G (b.at a (.inRegion ops (i::rest)::k)) cs) w :=
 X.ctl rfl (fun w=>by
  have hk':(b.kind==CallKind.early)=false:=by simpa using hk
  rw [stepG_oper ho hw];have h1:(execOp a.eval o).run P w = .halt (.panic v) w:=by rw [← zar (es:=#[]),hr]
  have h2:(execOp a.eval o).events P w #[]=#[]:=by have:=congrArg Prod.snd (hr w);rwa [Sem.runT_eq] at this
  simp [stepG.apply,h1,h2,G,Frame.at,hk',GStep.after,seen_none]) h
theorem za0 {α:Type} {s:Sem α} {r:Result α} (h1:s.run P w=r) (h2:s.events P w #[]=#[]):s.runT P w #[]=(r,#[]):=by
 rw [Sem.runT_eq,h1,h2]
end
section
variable {P:Program} {U:Tun} {main:Bool} {s:Seat} {b:Frame} {a:Act} {k:List Item} {cs:List Frame} {ops:Array Oper} {i:Nat} {rest:List Nat} {o:Oper} {g g':Goroutine}
theorem rk_any {K:World→Prop} {DD:World→World→Array Event→Prop} {Stop:Goroutine→World→Prop} {n:Nat} {w w':World} (h:Goes P main (RK K) DD Stop n g w):Goes P main (RK K) DD Stop n g w':=by
 cases n with
 | zero=>exact h
 | succ n=>exact h
theorem zo2 (hs:g.status = .running) (h:zh0 P U main s g') (hst:∀ w,U.K w→∃ es,stepG P main g w = .go g' w es∧∀ e∈es,∃ a,e=⟨.cell a,false,false⟩∧U.Still (.cell a)):zh0 P U main s g:=by
 obtain ⟨k,w,B0,h⟩:=h
 let B1:=max B0 (max (U.bx+1) (U.tu+1))+(List.range U.n).foldr (fun i n=>U.st i+1+n) 0
 have hb:∀ i,i < U.n→U.st i < (List.range U.n).foldr (fun i n=>U.st i+1+n) 0:=by
  intro i hi;have:∀ l:List Nat,i∈l→U.st i < l.foldr (fun i n=>U.st i+1+n) 0:=by
   intro l
   induction l with
   | nil=>intro h;cases h
   | cons x l ih =>
    intro h;rcases List.mem_cons.1 h with rfl|h
    ·simp only [List.foldr_cons];omega
    ·have:=ih h;simp only [List.foldr_cons];omega
  exact this _ (List.mem_range.2 hi)
 refine ⟨k+1,w,B1,fun B hB=>Goes.step hs fun w₁ h₁=>?_⟩;obtain ⟨es,he,hev⟩:=hst w₁ h₁;rw [he,goes_go];refine ⟨⟨rfl,fun e hm=>?_⟩,rk_any (h B (by omega))⟩;obtain ⟨a,rfl,hS⟩:=hev e hm;refine ⟨a,rfl,hS,?_⟩;rcases hS with q|q|⟨i,hi,q⟩
 ·cases q;show U.bx < B;omega
 ·cases q;show U.tu < B;omega
 ·cases q;have:=hb i hi;show U.st i < B;omega
theorem zdj (h:zh0 P U main s g') (hs:g.status = .running) (hst:∀ w,stepG P main g w = .go g' w #[]):zh0 P U main s g:=zo2 hs h fun w _=>⟨#[],hst w,by simp⟩
theorem ze2 {v:Value} (ho:ops[i]?=some o) (hw:Region.wanted o (yielded ops a.tmps)=true) (hk:b.kind ≠ .early) (hr:∀ w,(execOp a.eval o).runT P w #[]=(.ok (.value v) w,#[])) (h:zh0 P U main s (G (b.at (a.put o.dst v) (.inRegion ops rest::k)) cs)):zh0 P U main s (G (b.at a (.inRegion ops (i::rest)::k)) cs) :=
 zdj h rfl fun w=>by rw [stepG_value ho hw hk (by rw [← zar (es:=#[]),hr]),listed_none (by have:=congrArg Prod.snd (hr w);rwa [Sem.runT_eq] at this)]
theorem zl4 {v:Value} {x:Addr} (ho:ops[i]?=some o) (hw:Region.wanted o (yielded ops a.tmps)=true) (hk:b.kind ≠ .early) (hS:U.Still (.cell x)) (hr:∀ w,U.K w→(execOp a.eval o).runT P w #[]=(.ok (.value v) w,#[⟨.cell x,false,false⟩])) (h:zh0 P U main s (G (b.at (a.put o.dst v) (.inRegion ops rest::k)) cs)):zh0 P U main s (G (b.at a (.inRegion ops (i::rest)::k)) cs) :=
 zo2 rfl h fun w hK=>⟨_,stepG_value ho hw hk (by rw [← zar (es:=#[]),hr w hK]),fun e he=>by
  have hm:=mem_listed he;rw [show (execOp a.eval o).events P w #[]=#[⟨.cell x,false,false⟩] from by have:=congrArg Prod.snd (hr w hK);rwa [Sem.runT_eq] at this] at hm
  simp only [List.mem_toArray,List.mem_cons,List.not_mem_nil,or_false] at hm;exact ⟨x,hm,hS⟩⟩
theorem zo3 {c:Nat} {z:Value} {home:Goroutine→Prop} (ho:ops[i]?=some o) (hw:Region.wanted o (yielded ops a.tmps)=true) (hk:b.kind ≠ .early) (hr:∀ w,(execOp a.eval o).runT P w #[]=(.ok (.comm #[rcase c z] true (.recv false)) w,#[])) (h:home (G (b.at a (.inRegion ops (i::rest)::k)) cs)):zh0 P U main (Seat.one c z false home) (G (b.at a (.inRegion ops (i::rest)::k)) cs) :=
 ⟨0,default,0,fun B _ w₁ _=>⟨_,atIn_of ho hw hk (fun w=>by rw [← zar (es:=#[]),hr];rfl) (fun w=>by have:=congrArg Prod.snd (hr w);rwa [Sem.runT_eq] at this) h⟩⟩
end
section
variable {M:Type} [Priv M] {Rep:M→(Nat→Owner)→World→Prop} {U:Tun} {i:Nat} {A:Nat→Prop} {w₀:W0 M}
def zoo (U:Tun):Value := .iface 321 (.agg #[.iface 298 (.pointer (some ⟨U.tu,0,none⟩))])
theorem zub (hloc:zcp Rep) {κ:Fu M} {c:Frame} {cs:List Frame} (hret:GOF Rep Try.prog U i κ A w₀ (G (c.finish (.tuple #[])) cs)) (hend:zni Rep Try.prog U i A w₀ (G (c.raise [{ v:=zoo U,recovered:=false }]) cs)) :
  GOF Rep Try.prog U i (zb1 κ) A w₀ (G (Frame.enter Try.prog 217 #[.pointer (some ⟨U.st i,0,none⟩)] .normal) (c::cs)):=by
 refine zfd fun w m own ov bv C=>?_;have X:=zcq (Rep:=Rep) (P:=Try.prog) (U:=U) (i:=i) (own:=own) (w:=w) (ov:=ov) (bv:=bv) (mc:=zb1 κ m);replace hret:=yay hret;replace hend:=yay hend;rw [enter_at _ Try.func217 rfl];simp only [Try.ntmps217,yan,yau,yav,Nat.reduceAdd,Nat.reduceSub,yao,
   yap,yaq,yar,yas,yat]
 refine zl0 X ?_;refine zbc X 8 (by decide) (by decide) (zai (by kernel_rfl)) C.seats fun wp hp=>?_;simp only [yad,yae];have h1:=zd8 (i:=0) (zf9 hp (C.tn.dst C.lt) (C.tn.st i C.lt));have h2:=zd8 (i:=0) (zf9 hp C.tn.dtu C.tn.tu);simp only [yac,yaa] at h1 h2;replace X:=yay X;replace hp:=yay hp
 go_wp2_with fail
 refine zag hp C.seats.okd fun d => .stop ?_;refine ⟨own,A,?_,?_,.refl,.refl⟩
 ·refine zjw (v := .agg #[]) (z' := .tuple #[]) rfl rfl (by decide) ?_ ?_
  ·intro w;exact za0 (by go_simp;rfl) (by simp [go_sem])
  ·rw [if_neg (by simp [zb1,Co.isFin])];refine zdj ?_ rfl fun _=>stepG_region_end;refine zdj ?_ rfl fun _=>stepG_seq;refine zdj ?_ rfl fun _=>stepG_region;refine ze2 (v:=?v1) rfl rfl (by decide) (fun w=>za0 ?h1 ?i1) ?n1
   case h1=>(go_simp;rfl)
   case i1=>(simp [go_sem])
   refine ze2 (v:=?v2) rfl rfl (by decide) (fun w=>za0 ?h2 ?i2) ?n2
   case h2=>(go_simp;rfl)
   case i2=>(simp [go_sem])
   refine ze2 (v:=?v3) rfl rfl (by decide) (fun w=>za0 ?h3 ?i3) ?n3
   case h3=>(go_simp;rfl)
   case i3=>(simp [go_sem])
   refine zl4 (v := .chan (some (U.pass i))) rfl rfl (by decide) (.inr (.inr ⟨i,C.lt,rfl⟩)) (fun w hK=>?_) ?_
   ·have:=hK.st i C.lt;rw [Sem.runT_eq]
    go_simp
   refine zo3 rfl rfl (by decide) (fun w=>za0 (by go_simp;rfl) (by simp [go_sem])) ?_;have hA:∀ b,A b→A b∧(w.at d).heap[b]?=w₀.heap[b]?:=fun b hb=>⟨hb,(C.mine b hb).2⟩;refine th_step ?_ ?_
   ·rw [zdw _ rfl];refine zfd fun w2 m2 own2 ov2 bv2 C2=>?_;have X2:=zcq (Rep:=Rep) (P:=Try.prog) (U:=U) (i:=i) (own:=own2) (w:=w2) (ov:=ov2) (bv:=bv2) (mc:=κ m2);refine zia X2 (rest:=[]) (by decide) [5] [_] _ _ rfl (zai (by kernel_rfl)) C2.seats rfl fun wp hp=>?_;clear h1 h2 X;replace hp:=yay hp;replace X2:=yay X2
    go_wp2_with fail
    refine zag hp C2.seats.okd ?_;refine zad X2 ?_;refine zao X2 (t:=false) rfl ?_;refine za7 X2 ?_;refine zhf X2 ?_;refine zav X2 (zaa Try.func217) C2.seats ⟨rfl,rfl,rfl,_,Try.func217,results_none rfl _ _ _⟩ ?_;exact zd1 hloc hret (C2.less hA C.pv C.tg) .refl .refl
   ·rw [zdw _ rfl];refine zfd fun w2 m2 own2 ov2 bv2 C2=>?_;have X2:=zcq (Rep:=Rep) (P:=Try.prog) (U:=U) (i:=i) (own:=own2) (w:=w2) (ov:=ov2) (bv:=bv2) (mc:=(m2,.fin));refine zia X2 (rest:=[]) (by decide) [5] [_] _ _ rfl (zai (by kernel_rfl)) C2.seats rfl fun wp hp=>?_;clear h1 h2 X;replace hp:=yay hp;replace X2:=yay X2
    go_wp2_with fail
    refine zag hp C2.seats.okd ?_;refine zad X2 ?_;refine zao X2 (t:=true) rfl ?_;refine zbc X2 7 (by decide) (by decide) (zai (by kernel_rfl)) C2.seats fun wp hp=>?_;simp only [yad,yae];have h1:=zd8 (i:=0) (zf9 hp (C2.tn.dst C2.lt) (C2.tn.st i C2.lt));simp only [yac,yaa] at h1;replace hp:=yay hp
    go_wp2_with fail
    refine zag hp C2.seats.okd ?_;refine zq3 (v:=zoo U) X2 rfl rfl (by decide) (fun w=>za0 (by go_simp;rfl) (by simp [go_sem,Instr.panic])) ?_;refine znq X2 (zaa Try.func217) rfl rfl ?_;exact zd1 hloc hend (C2.less hA C.pv C.tg) .refl .refl
 ·have C':=C.re hloc (w':=w.at d) rfl;exact ⟨C'.lt,C'.wf,C'.tn,C'.tun,C'.rep,C'.fresh,fun b hb=>⟨(C'.mine b hb).1,rfl⟩,C'.bf,rfl,.refl⟩
theorem zua (hloc:zcp Rep) {c:Frame} {cs:List Frame} (hend:zni Rep Try.prog U i A w₀ (G (c.raise [{ v:=zoo U,recovered:=false }]) cs)) :
  GOF Rep Try.prog U i zkm A w₀ (G (Frame.enter Try.prog 217 #[.pointer (some ⟨U.st i,0,none⟩)] .normal) (c::cs)):=by
 refine zfd fun w m own ov bv C=>?_;have X:=zcq (Rep:=Rep) (P:=Try.prog) (U:=U) (i:=i) (own:=own) (w:=w) (ov:=ov) (bv:=bv) (mc:=zkm m);replace hend:=yay hend;rw [enter_at _ Try.func217 rfl];simp only [Try.ntmps217,yan,yau,yav,Nat.reduceAdd,Nat.reduceSub,yao,
   yap,yaq,yar,yas,yat]
 refine zl0 X ?_;refine zbc X 8 (by decide) (by decide) (zai (by kernel_rfl)) C.seats fun wp hp=>?_;simp only [yad,yae];have h1:=zd8 (i:=0) (zf9 hp (C.tn.dst C.lt) (C.tn.st i C.lt));have h2:=zd8 (i:=0) (zf9 hp C.tn.dtu C.tn.tu);simp only [yac,yaa] at h1 h2;replace X:=yay X;replace hp:=yay hp
 go_wp2_with fail
 refine zag hp C.seats.okd fun d => .stop ?_;refine ⟨own,A,?_,?_,.refl,.refl⟩
 ·refine zjw (v := .agg #[]) (z' := .tuple #[]) rfl rfl (by decide) ?_ ?_
  ·intro w;exact za0 (by go_simp;rfl) (by simp [go_sem])
  ·rw [if_neg (by simp [zkm,Co.isFin])];refine zdj ?_ rfl fun _=>stepG_region_end;refine zdj ?_ rfl fun _=>stepG_seq;refine zdj ?_ rfl fun _=>stepG_region;refine ze2 (v:=?v1) rfl rfl (by decide) (fun w=>za0 ?h1 ?i1) ?n1
   case h1=>(go_simp;rfl)
   case i1=>(simp [go_sem])
   refine ze2 (v:=?v2) rfl rfl (by decide) (fun w=>za0 ?h2 ?i2) ?n2
   case h2=>(go_simp;rfl)
   case i2=>(simp [go_sem])
   refine ze2 (v:=?v3) rfl rfl (by decide) (fun w=>za0 ?h3 ?i3) ?n3
   case h3=>(go_simp;rfl)
   case i3=>(simp [go_sem])
   refine zl4 (v := .chan (some (U.pass i))) rfl rfl (by decide) (.inr (.inr ⟨i,C.lt,rfl⟩)) (fun w hK=>?_) ?_
   ·have:=hK.st i C.lt;rw [Sem.runT_eq]
    go_simp
   refine zo3 rfl rfl (by decide) (fun w=>za0 (by go_simp;rfl) (by simp [go_sem])) ?_;have hA:∀ b,A b→A b∧(w.at d).heap[b]?=w₀.heap[b]?:=fun b hb=>⟨hb,(C.mine b hb).2⟩;refine th_cut ?_
   ·rw [zdw _ rfl];refine zfd fun w2 m2 own2 ov2 bv2 C2=>?_;have X2:=zcq (Rep:=Rep) (P:=Try.prog) (U:=U) (i:=i) (own:=own2) (w:=w2) (ov:=ov2) (bv:=bv2) (mc:=(m2,.fin));refine zia X2 (rest:=[]) (by decide) [5] [_] _ _ rfl (zai (by kernel_rfl)) C2.seats rfl fun wp hp=>?_;clear h1 h2 X;replace hp:=yay hp;replace X2:=yay X2
    go_wp2_with fail
    refine zag hp C2.seats.okd ?_;refine zad X2 ?_;refine zao X2 (t:=true) rfl ?_;refine zbc X2 7 (by decide) (by decide) (zai (by kernel_rfl)) C2.seats fun wp hp=>?_;simp only [yad,yae];have h1:=zd8 (i:=0) (zf9 hp (C2.tn.dst C2.lt) (C2.tn.st i C2.lt));simp only [yac,yaa] at h1;replace hp:=yay hp
    go_wp2_with fail
    refine zag hp C2.seats.okd ?_;refine zq3 (v:=zoo U) X2 rfl rfl (by decide) (fun w=>za0 (by go_simp;rfl) (by simp [go_sem,Instr.panic])) ?_;refine znq X2 (zaa Try.func217) rfl rfl ?_;exact zd1 hloc hend (C2.less hA C.pv C.tg) .refl .refl
 ·have C':=C.re hloc (w':=w.at d) rfl;exact ⟨C'.lt,C'.wf,C'.tn,C'.tun,C'.rep,C'.fresh,fun b hb=>⟨(C'.mine b hb).1,rfl⟩,C'.bf,rfl,.refl⟩
end
end Go.Proofs.Ytofacoojpgkbiaa
