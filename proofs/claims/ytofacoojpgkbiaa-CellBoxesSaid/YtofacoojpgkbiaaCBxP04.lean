/-
  A part of a proof. No condition of its own.
-/
import Derived.Test.YtofacoojpgkbiaaCBxP03
import Derived.Conc.TokenWalk
set_option linter.unusedVariables false
set_option maxHeartbeats 8000000
set_option linter.unusedSimpArgs false
namespace Go.Proofs.Ytofacoojpgkbiaa
open Go.Conc
open Go.ConcN (upd upd_ne upd_same sumTo)
set_option maxRecDepth 100000
section
variable {P:Program} {K:World→Prop} {Still:Loc→Prop} {B:Nat} {Mem Mem':Nat→Prop} {Inb:Nat→Option Seat} {h:Nat} {T:Trace} {gs:Array Goroutine} {w:World} {q:Nat→Nat}
theorem zke (C:Ring P K Still B Mem Inb h T gs w q) (h1:∀ g,Mem' g→Mem g) (h2:∀ i s,Inb i=some s→Mem' i) (h3:∀ i,Mem' i→Inb i≠none∨i=h):Ring P K Still B Mem' Inb h T gs w q :=
 ⟨C.idle,C.chans,C.wf,C.live,C.inj,C.above,fun i s e=>⟨h2 i s e,(C.mem i s e).2⟩,h3,C.lo,PastG.fewer C.past h1,C.keep⟩
theorem zv2 {main:Bool} {D D':World→World→Array Event→Prop} {Stop:Goroutine→World→Prop} {g:Goroutine} (hD:∀ w w' es,D w w' es→D' w w' es) (h:Fut P main D Stop g w):Fut P main D' Stop g w:=by
 induction h with
 | stop h=>exact .stop h
 | step hs nx wx ex h1 h2 _ ih=>exact .step hs nx wx ex h1 (fun d=>hD _ _ _ (h2 d)) ih
theorem zv6 {Inb':Nat→Option Seat} (hs:∀ i s c,Inb' i=some s→s.has c→∃ i' s',Inb i'=some s'∧s'.has c) (w w':World) (es:Array Event) (h:DX K Still Inb w w' es):DX K Still Inb' w w' es :=
 ⟨h.keep,fun i s c e hc=>by obtain ⟨i',s',e',hc'⟩:=hs i s c e hc;exact h.chans i' s' c e' hc',h.evs⟩
end
def Reach (P:Program) (Z:Machine→Trace→Prop) (m:Machine) (T:Trace):Prop:=∃ N m' T',runNT P N m T=(.next m',T')∧Z m' T'
theorem Reach.then {P:Program} {Z:Machine→Trace→Prop} {N:Nat} {m m':Machine} {T T':Trace} (h:runNT P N m T=(.next m',T')) (k:Reach P Z m' T'):Reach P Z m T:=by
 obtain ⟨N',m2,T2,h2,hz⟩:=k;exact ⟨N+N',m2,T2,runNT_then h h2,hz⟩
section
variable {M:Type} [Priv M] (Rep:M→(Nat→Owner)→World→Prop) (P:Program) (U:Tun)
noncomputable def zel (k:Nat) (ov:Nat→Bool) (hm:Nat→Goroutine→Prop) (home:Goroutine→Prop):Nat→Option Seat:=fun j =>
 if j=0 then some (Seat.one U.back (.agg #[]) false home) else if U.g0≤j∧j < U.g0+k∧ov (j - U.g0)=false then some (ze9 U (j - U.g0) (hm (j - U.g0))) else none
structure Wd (k:Nat) (m:M) (c0:Nat→Co M) (ov:Nat→Bool) (own:Nat→Owner) (A:Nat→Nat→Prop) (w₀:Nat→W0 M) (w:World):Prop where
 wf:U.Wf
 kn:k≤U.n
 tn:Tn U ov (fun _=>false) w
 tun:∀ b,U.blk b→own b = .tun
 rep:Rep m own w
 fresh:∀ b,w.heap.size≤b→own b = .out
 co:∀ i,i < k→(c0 i).isFin=ov i
 later:∀ i,k≤i→ov i=false
 mine:∀ i,i < k→ov i=false→∀ b,A i b→own b = .th i∧w.heap[b]?=(w₀ i).heap[b]?
 pv:∀ i,ov i=false→Priv.get i m=Priv.get i (w₀ i).m
 tg:∀ i,ov i=false→Tg (w₀ i) own w
 cp:∀ i,i < k→znj i (c0 i)
def hmG (co:Nat→Co M) (A:Nat→Nat→Prop) (w₀:Nat→W0 M):Nat→Goroutine→Prop:=fun i g=>TH Rep P U i (co i) (A i) (w₀ i) g
end
section
variable {M:Type} [Priv M] {Rep:M→(Nat→Owner)→World→Prop} {P:Program} {U:Tun} {i k:Nat} {own own':Nat→Owner} {A:Nat→Nat→Prop} {w₀:Nat→W0 M} {w w':World} {m m':M} {co:Nat→Co M} {ov bv:Nat→Bool} {hm:Nat→Goroutine→Prop} {home:Goroutine→Prop}
theorem Wd.ctx (W:Wd Rep U k m co ov own A w₀ w) (hi:i < U.n) (A':Nat→Prop) (w₁:W0 M) (hA:∀ b,A' b→own b = .th i∧w.heap[b]?=w₁.heap[b]?) (hp:Priv.get i m=Priv.get i w₁.m) (ht:Tg w₁ own w):Ctx Rep U i own A' w₁ w m ov (fun _=>false) :=
 ⟨hi,W.wf,W.tn,W.tun,W.rep,W.fresh,hA,rfl,hp,ht⟩
theorem Tn.apart (h:Tn U ov bv w) {c:Nat} (hc:c=U.back∨∃ j,j < U.n∧c=U.pass j):c≠U.bx∧c≠U.tu∧∀ i,i < U.n→c≠U.st i:=by
 have key:∃ k,w.heap[c]?=some (.chan 0 #[] false k k false):=by
  rcases hc with rfl|⟨j,hj,rfl⟩
  ·exact h.back
  ·exact h.pass j hj
 obtain ⟨k,hk⟩:=key;refine ⟨?_,?_,fun i hi=>?_⟩
 ·rintro rfl;rw [h.bx] at hk;cases hk
 ·rintro rfl;rw [h.tu] at hk;cases hk
 ·rintro rfl;rw [h.st i hi] at hk;cases hk
theorem zff {w:World} {c:Nat} {a:Addr} (h:c≠a.block) (cap:Nat) (buf:Array Value) (cl:Bool) (x y:Nat) (tm:Bool):(w.setChan c cap buf cl x y tm).cell? a=w.cell? a:=by
 unfold World.cell?;rw [heap_setChan_ne w cap buf cl x y tm h]
theorem Tun.K.setChan {w:World} {c:Nat} (h:U.K w) (hc:c≠U.bx∧c≠U.tu∧∀ i,i < U.n→c≠U.st i) (cap:Nat) (buf:Array Value) (cl:Bool) (x y:Nat) (tm:Bool):U.K (w.setChan c cap buf cl x y tm) :=
 ⟨by rw [zff hc.1];exact h.bx,by rw [zff hc.2.1];exact h.tu,fun i hi=>by rw [zff (hc.2.2 i hi)];exact h.st i hi,h.outs⟩
theorem Tun.K.at {w:World} (h:U.K w) (d:Nat):U.K (w.at d):=⟨h.bx,h.tu,h.st,h.outs⟩
theorem zg2 {j:Nat} {s:Seat} (h:zel U k ov hm home j=some s):(j=0∧s=Seat.one U.back (.agg #[]) false home)∨(U.g0≤j∧j < U.g0+k∧ov (j - U.g0)=false∧s=ze9 U (j - U.g0) (hm (j - U.g0))):=by
 unfold zel at h;split at h
 ·exact .inl ⟨‹_›,(yaw h).symm⟩
 ·split at h
  ·rename_i q;exact .inr ⟨q.1,q.2.1,q.2.2,(yaw h).symm⟩
  ·cases h
theorem zjm {home':Goroutine→Prop} {j:Nat} (h:zel U k ov hm home j≠none):zel U k ov hm home' j≠none:=by
 unfold zel at h ⊢;by_cases e:j=0
 ·rw [if_pos e];simp
 ·rw [if_neg e] at h ⊢;exact h
theorem zso (hg:0 < U.g0) (hi:i < k) (ho:ov i=false):zel U k ov hm home (U.g0+i)=some (ze9 U i (hm i)):=by
 unfold zel;rw [if_neg (by omega),if_pos ⟨by omega,by omega,by rw [Nat.add_sub_cancel_left];exact ho⟩,Nat.add_sub_cancel_left]
theorem zjl {j:Nat} (h0:j≠0) (h:¬ (U.g0≤j∧j < U.g0+k∧ov (j - U.g0)=false)):zel U k ov hm home j=none:=by
 unfold zel;rw [if_neg h0,if_neg h]
theorem zlg (hkn:k≤U.n) {j c:Nat} {s:Seat} (h:zel U k ov hm home j=some s) (hc:s.has c):c=U.back∨∃ j,j < U.n∧c=U.pass j:=by
 rcases zg2 h with ⟨_,rfl⟩|⟨h1,h2,_,rfl⟩
 ·exact .inl (Seat.one_has.1 hc)
 ·exact .inr ⟨j - U.g0,by omega,Seat.one_has.1 hc⟩
theorem zv1 (hg:0 < U.g0) {c:Nat} (h:c=U.back∨∃ j,j < U.n∧c=U.pass j):∃ i' s',U.Inb i'=some s'∧s'.has c:=by
 rcases h with rfl|⟨j,hj,rfl⟩
 ·exact ⟨0,_,rfl,Seat.one_has.2 rfl⟩
 ·refine ⟨U.g0+j,Seat.one (U.pass (U.g0+j - U.g0)) (.bool false) false fun _=>True,?_,by rw [Nat.add_sub_cancel_left];exact Seat.one_has.2 rfl⟩;unfold Tun.Inb;rw [if_neg (by omega),if_pos ⟨by omega,by omega⟩]
theorem Tn.turned (h:Tn U ov bv w) (hwf:U.Wf) {c cap k:Nat} (hc:c=U.back∨∃ j,j < U.n∧c=U.pass j) (e:w.heap[c]?=some (.chan cap #[] false k k false)):Tn U ov bv (w.setChan c cap #[] false (k+1) (k+1) false):=by
 obtain ⟨a1,a2,a3⟩:=h.apart hc;have hcap:cap=0:=by
  rcases hc with rfl|⟨j,hj,rfl⟩
  ·obtain ⟨x,hx⟩:=h.back;rw [hx] at e;cases e;rfl
  ·obtain ⟨x,hx⟩:=h.pass j hj;rw [hx] at e;cases e;rfl
 subst hcap;have other:∀ b,b≠c→(w.setChan c 0 #[] false (k+1) (k+1) false).heap[b]?=w.heap[b]?:=fun b hb=>heap_setChan_ne w _ _ _ _ _ _ (fun x=>hb x.symm);have self:=heap_setChan_self w e 0 #[] false (k+1) (k+1) false;refine ⟨?_,?_,?_,?_,fun i hi=>?_,?_,fun i hi=>?_⟩
 ·rw [other _ (fun x=>a1 x.symm)];exact h.bx
 ·rw [other _ (fun x=>a2 x.symm)];exact h.tu
 ·obtain ⟨x,y,hx,hx2⟩:=h.sl;rw [other _ (fun q=>by rw [← q,hx] at e;cases e)];exact ⟨x,y,hx,hx2⟩
 ·obtain ⟨x,hx,hx2⟩:=h.br;rw [other _ (fun q=>by rw [← q,hx] at e;cases e)];exact ⟨x,hx,hx2⟩
 ·rw [other _ (fun x=>a3 i hi x.symm)];exact h.st i hi
 ·by_cases q:U.back=c
  ·rw [q];exact ⟨_,self⟩
  ·rw [other _ q];exact h.back
 ·by_cases q:U.pass i=c
  ·rw [q];exact ⟨_,self⟩
  ·rw [other _ q];exact h.pass i hi
end
section
variable {P:Program} {K:World→Prop} {Still:Loc→Prop} {B:Nat} {Mem:Nat→Prop} {Inb:Nat→Option Seat} {h:Nat} {T:Trace} {gs:Array Goroutine} {w:World} {q:Nat→Nat}
theorem zoj (hKat:∀ w d,K w→K (w.at d)) {Stop:Goroutine→World→Prop} {a:Goroutine} (hG:Fut P (h==0) (DX K Still Inb) Stop a w) :
  ∀ {B:Nat} {T:Trace} {gs:Array Goroutine} {q:Nat→Nat} {sl:Option (Nat×Nat)},gs[h]?=some a→Ring P K Still B Mem Inb h T gs w q →
  ∃ (N B':Nat) (gs':Array Goroutine) (a':Goroutine) (w':World) (sl':Option (Nat×Nat)) (T':Trace) (q':Nat→Nat),
   runNT P N (crowd gs w sl) T=(.next (crowd gs' w' sl'),T')∧B≤B'∧gs'.size=gs.size∧gs'[h]?=some a'∧Stop a' w'∧Ring P K Still B' Mem Inb h T' gs' w' q':=by
 induction hG with
 | stop hS=>exact fun {B T gs q sl} ha C=>⟨0,B,gs,_,_,sl,T,q,rfl,yax _,rfl,ha,hS,C⟩
 | @step a w hs nx wx ex e1 e2 _ ih =>
  intro B T gs q sl ha C;obtain ⟨N,gs₁,d,d',sl₁,sl₂,T₁,q₁,hr,hst,hsz,ha₁,C₁⟩:=picked (sl:=sl) hKat ha hs C;have hgo:=e1 d';have hd:=e2 d';have ih':=@ih d';generalize nx d'=a' at *;generalize wx d'=w' at *;generalize ex d'=es at *;obtain ⟨B₁,hB₁⟩:=zsk es;have C₂:=zfa C₁ (Nat.le_max_left B B₁);obtain ⟨C₃,ha'⟩:=C₂.own (a':=a') ha₁ ⟨hd.keep,hd.chans,fun e he=>⟨(hd.evs e he).1,(hd.evs e he).2.1,(hd.evs e he).2.2,hB₁ _ (Nat.le_max_right _ _) e he⟩⟩;obtain ⟨N₂,B',gs',a'',w'',sl',T',q',hr',hBB,hsz',ha'',hS,C'⟩:=ih' (sl:=sl₂) ha' C₃;have h1:=runNT_succ_of hr (hst.trans (runT_crowd_go (sl:=sl₂) ha₁ hgo));exact ⟨N+1+N₂,B',gs',a'',w'',sl',T',q',runNT_then h1 hr',Nat.le_trans (Nat.le_max_left _ _) hBB,by rw [hsz'];simpa using hsz,ha'',hS,C'⟩
end
abbrev zwf (Inb:Nat→Option Seat) (h:Nat):Nat→Prop:=fun j=>Inb j≠none∨j=h
section
variable {M:Type} [Priv M] {Rep:M→(Nat→Owner)→World→Prop} {P:Program} {U:Tun} {i k:Nat} {own own':Nat→Owner} {A:Nat→Nat→Prop} {w₀:Nat→W0 M} {w w':World} {m m':M} {co:Nat→Co M} {ov:Nat→Bool} {hm:Nat→Goroutine→Prop} {home:Goroutine→Prop} {B:Nat} {T:Trace} {gs:Array Goroutine} {q:Nat→Nat} {sl:Option (Nat×Nat)}
theorem zii {Mem:Nat→Prop} {Inb:Nat→Option Seat} {h:Nat} (C:Ring P U.K U.Still B Mem Inb h T gs w q) (h1:∀ g,Inb g≠none∨g=h→Mem g):Ring P U.K U.Still B (zwf Inb h) Inb h T gs w q :=
 zke C h1 (fun i s e => .inl (by rw [e];simp)) fun i h=>h
theorem zhq {main:Bool} {s:Seat} {g:Goroutine} (h:zh0 P U main s g):∃ n B0,∀ B,B0≤B→Sits P main U.K U.Still B s n g:=by
 obtain ⟨k,w,B0,h⟩:=h;exact ⟨k+1,B0,fun B hB => .inl ⟨k,w,rfl,h B hB⟩⟩
theorem zl6 (hloc:zcp Rep)
  {Inb:Nat→Option Seat} {a:Goroutine} {fin:Bool} {c':Co M} (hi:i < U.n) (hik:i < k) (hkn:k≤U.n) (hwf:U.Wf) (hov:ov i=false) (hfin:c'.isFin=fin)
  (ha:gs[U.g0+i]?=some a) (hF:Fut P false U.DX (ThOut Rep P U i own w m' fin (fun A w₀ g=>TH Rep P U i c' A w₀ g) ov (fun _=>false)) a w)
  (C:Ring P U.K U.Still B (zwf Inb (U.g0+i)) Inb (U.g0+i) T gs w q) (hI:∀ j,j≠U.g0+i→Inb j=zel U k ov hm home j) (hIi:∀ s,Inb (U.g0+i)=some s→∃ h,s=ze9 U i h) :
  ∃ (N:Nat) (gs':Array Goroutine) (w1 w':World) (sl':Option (Nat×Nat)) (T':Trace) (q':Nat→Nat) (B':Nat) (g₂:Goroutine) (v:Value) (own':Nat→Owner) (A':Nat→Prop),
   runNT P N (crowd gs w sl) T=(.next (crowd gs' w' sl'),T')∧gs'.size=gs.size∧gs'[0]?=some (Go.Conc.served g₂ v)∧home g₂ ∧
   Ring P U.K U.Still B' (zwf (zel U k (if fin then upd ov i true else ov) (upd hm i fun g=>TH Rep P U i c' A' ⟨w1.heap,m',own'⟩ g) home) 0) (zel U k (if fin then upd ov i true else ov) (upd hm i fun g=>TH Rep P U i c' A' ⟨w1.heap,m',own'⟩ g) home) 0 T' gs' w' q' ∧
   Ctx Rep U i own' A' ⟨w1.heap,m',own'⟩ w1 m' (if fin then upd ov i true else ov) (fun _=>false)∧OwnStep i own own' w.heap.size∧Frm i own w w1 ∧
   w'.heap.size=w1.heap.size∧(∀ b,b≠U.back→w'.heap[b]?=w1.heap[b]?)∧Tn U (if fin then upd ov i true else ov) (fun _=>false) w':=by
 have hg0:=hwf.g0;have hne:(U.g0+i==0)=false:=by simp;omega
 have hsub:∀ j s c,Inb j=some s→s.has c→c=U.back∨∃ j,j < U.n∧c=U.pass j:=fun j s c e hc=>by
  by_cases ej:j=U.g0+i
  ·subst ej;obtain ⟨h,rfl⟩:=hIi s e;exact .inr ⟨i,hi,Seat.one_has.1 hc⟩
  ·rw [hI j ej] at e;exact zlg hkn e hc
 have hF':Fut P (U.g0+i==0) (DX U.K U.Still Inb) (ThOut Rep P U i own w m' fin (fun A w₀ g=>TH Rep P U i c' A w₀ g) ov (fun _=>false)) a w:=by
  rw [hne];exact zv2 (zv6 fun j s c e hc=>zv1 hg0 (hsub j s c e hc)) hF
 obtain ⟨N1,B1,gs1,a1,w1,sl1,T1,q1,r1,hB1,z1,h1,⟨own',A',⟨hrun,g₂,v,z',hsend,haft⟩,C1,hO,hFr⟩,R1⟩:=zoj (sl:=sl) (fun w d (h:U.K w)=>h.at d) hF' ha C;have hupd:(if fin then upd (fun _=>false) i false else fun _=>false)=(fun _=>false:Nat→Bool):=by
  cases fin
  ·rfl
  ·funext j;by_cases e:j=i
   ·subst e;simp [upd]
   ·simp [upd,e]
 rw [hupd] at C1;have hback:U.back < w1.heap.size:=C1.tn.lt (.inr (.inr (.inr (.inr (.inl rfl)))));obtain ⟨B2,s',R2,hB2,hsI⟩:∃ (B2:Nat) (Inb2:Nat→Option Seat),Ring P U.K U.Still B2 (zwf Inb2 (U.g0+i)) Inb2 (U.g0+i) T1 gs1 w1 q1∧(∀ j,j≠U.g0+i→Inb2 j=Inb j) ∧
   ((fin=true∧Inb2=Inb)∨(fin=false∧Inb2 (U.g0+i)=some (ze9 U i fun g=>TH Rep P U i c' A' ⟨w1.heap,m',own'⟩ g)∧∃ n,Sits P false U.K U.Still B2 (ze9 U i fun g=>TH Rep P U i c' A' ⟨w1.heap,m',own'⟩ g) n (Go.Conc.served g₂ undef))):=by
  cases fin with
  | true=>exact ⟨B1,Inb,R1,fun _ _=>rfl,.inl ⟨rfl,rfl⟩⟩
  | false =>
   simp only [Bool.false_eq_true,if_false] at haft;obtain ⟨n,B0,hs⟩:=zhq haft;have R1':=zfa R1 (Nat.le_max_left B1 (max B0 (U.pass i+1)));refine ⟨_,_,zii (R1'.reseat (.inr rfl) (ze9 U i fun g=>TH Rep P U i c' A' ⟨w1.heap,m',own'⟩ g) (Seat.one_wf _ _ _ _) (fun j s c hj e hc hn=>?_) (fun c hc=>?_) (fun c hc=>?_)) (fun g hg=>?_),fun j hj=>upd_ne _ _ hj,.inr ⟨rfl,upd_same _ _ _,n,hs _ (by omega)⟩⟩
   ·have e1:c=U.pass i:=Seat.one_has.1 hn;rw [hI j hj] at e;rcases zg2 e with ⟨_,rfl⟩|⟨q1,q2,_,rfl⟩
    ·have e2:c=U.back:=Seat.one_has.1 hc;exact hwf.back i hi (e1.symm.trans e2)
    ·have e2:c=U.pass (j - U.g0):=Seat.one_has.1 hc;have:=hwf.pass i (j - U.g0) hi (by omega) (e1.symm.trans e2);omega
   ·rw [show c=U.pass i from Seat.one_has.1 hc]
    obtain ⟨x,hx⟩:=C1.tn.pass i hi;exact ⟨0,x,hx⟩
   ·rw [show c=U.pass i from Seat.one_has.1 hc]
    omega
   ·by_cases e:g=U.g0+i
    ·exact .inr e
    ·exact .inl (by
      rcases hg with hg|hg
      ·rwa [upd_ne _ _ e] at hg
      ·exact absurd hg e)
 have hKc:∀ w i' s c cap buf cl a b tm,s' i'=some s→s.has c→U.K w→U.K (w.setChan c cap buf cl a b tm):=fun w j s c cap buf cl x y tm e hc hK=>by
  refine hK.setChan (C1.tn.apart ?_) _ _ _ _ _ _;by_cases ej:j=U.g0+i
  ·subst ej;rcases hsI with ⟨_,rfl⟩|⟨_,e2,_⟩
   ·exact hsub _ s c e hc
   ·rw [e2] at e;cases e;exact .inr ⟨i,hi,Seat.one_has.1 hc⟩
  ·rw [hB2 j ej] at e;exact hsub j s c e hc
 have h0:s' 0=some (Seat.one U.back (.agg #[]) false home):=by rw [hB2 0 (by omega),hI 0 (by omega)];rfl
 have hsz:0 < gs1.size:=by
  have:=(yah.1 h1).1;omega
 have hend:∃ (Inb':Nat→Option Seat) (B3 nh:Nat),Ring P U.K U.Still B3 (zwf s' (U.g0+i)) s' (U.g0+i) T1 gs1 w1 q1∧(∀ x,x≠U.g0+i→Inb' x=s' x)∧(Inb' (U.g0+i)=s' (U.g0+i)∨Inb' (U.g0+i)=none)∧(∀ T',Deaf T' (U.g0+i)=0→Idle P U.K U.Still B3 T' (U.g0+i) nh (Go.Conc.served g₂ undef) (Inb' (U.g0+i))) ∧
   Inb'=zel U k (if fin then upd ov i true else ov) (upd hm i fun g=>TH Rep P U i c' A' ⟨w1.heap,m',own'⟩ g) home:=by
  refine ⟨zel U k (if fin then upd ov i true else ov) (upd hm i fun g=>TH Rep P U i c' A' ⟨w1.heap,m',own'⟩ g) home,?_⟩;have hoth:∀ x,x≠U.g0+i→zel U k (if fin then upd ov i true else ov) (upd hm i fun g=>TH Rep P U i c' A' ⟨w1.heap,m',own'⟩ g) home x=s' x:=fun x hx=>by
   rw [hB2 x hx,hI x hx];unfold zel;by_cases h0:x=0
   ·rw [if_pos h0,if_pos h0]
   ·rw [if_neg h0,if_neg h0];by_cases h1:U.g0≤x∧x < U.g0+k
    ·have hxi:x - U.g0≠i:=by omega
     have e1:(if fin then upd ov i true else ov) (x - U.g0)=ov (x - U.g0):=by
      cases fin
      ·rfl
      ·exact upd_ne _ _ hxi
     rw [e1,upd_ne hm _ hxi]
    ·rw [if_neg (fun z=>h1 ⟨z.1,z.2.1⟩),if_neg (fun z=>h1 ⟨z.1,z.2.1⟩)]
  cases fin with
  | true =>
   simp only [if_true] at haft hoth ⊢;obtain ⟨n,hq⟩:=haft;have hno:zel U k (upd ov i true) (upd hm i fun g=>TH Rep P U i c' A' ⟨w1.heap,m',own'⟩ g) home (U.g0+i)=none:=zjl (by omega) (fun z=>by rw [Nat.add_sub_cancel_left,upd_same] at z;exact absurd z.2.2 (by simp));refine ⟨_,n,R2,hoth,.inr hno,fun T' hd=>?_,trivial⟩;rw [hno];exact ⟨by omega,by rw [hd];exact hq⟩
  | false =>
   rcases hsI with ⟨z,_⟩|⟨_,e2,n,hs⟩
   ·cases z
   ·have hyes:zel U k ov (upd hm i fun g=>TH Rep P U i c' A' ⟨w1.heap,m',own'⟩ g) home (U.g0+i)=some (ze9 U i fun g=>TH Rep P U i c' A' ⟨w1.heap,m',own'⟩ g):=by
     rw [zso hg0 hik hov,upd_same]
    simp only [Bool.false_eq_true,if_false] at hoth ⊢;refine ⟨_,n,R2,hoth,.inl (hyes.trans e2.symm),fun T' hd=>?_,trivial⟩;rw [hyes];show Sits P (U.g0+i==0) _ _ _ _ _ _;rw [hne];exact hs
 obtain ⟨Inb',B3,nh,R3,hI',hIh,hafter,rfl⟩:=hend;obtain ⟨N2,m2,T2,r2,gs2,g0',d2,k2,cp2,sl2,q2,rfl,z2,h2,hhome,hc2,R4⟩:=give (sl:=sl1) (h:=U.g0+i) (j:=0) (s:=Seat.one U.back (.agg #[]) false home) (c:=U.back) (kk:=0) (z := .agg #[]) (v:=v) (z':=z') (a₂:=g₂) (es:=#[]) (fun w d (h:U.K w)=>h.at d) hKc (by omega) hsz h0 rfl (.inr rfl) h1 hrun (by rw [hne];exact hsend) (by simp) R3 hI' hIh hafter;have hw2:((w1.at d2).setChan U.back cp2 #[] false (k2+1) (k2+1) false).heap.size=w1.heap.size:=by simp [World.setChan,World.at]
 refine ⟨N1+N2,gs2,w1,_,sl2,T2,q2,B3,g0',v,own',A',runNT_then r1 r2,z2.trans z1,h2,hhome,zii R4 ?_,C1,hO,hFr,hw2,fun b hb=>heap_setChan_ne (w1.at d2) cp2 #[] false (k2+1) (k2+1) false (fun x=>hb x.symm),?_⟩
 ·intro g hg;refine ⟨?_,?_⟩
  ·by_cases e:g=U.g0+i
   ·exact .inr e
   ·rcases hg with hg|rfl
    ·exact .inl (by rw [← hI' g e];exact hg)
    ·exact .inl (by rw [h0];simp)
  ·rcases hg with hg|rfl
   ·exact .inl hg
   ·exact .inr rfl
 ·exact (C1.tn.of_heap (w':=w1.at d2) rfl).turned hwf (.inl rfl) hc2
theorem Wd.turned (W:Wd Rep U k m co ov own A w₀ w) {w1:World} {c':Co M} {fin:Bool} {A':Nat→Prop} (hloc:zcp Rep) (hik:i < k) (hov:ov i=false) (hfin:c'.isFin=fin) (hmm:∀ j,j≠i→Priv.get j m'=Priv.get j m) (hcp:znj i c')
  (C1:Ctx Rep U i own' A' ⟨w1.heap,m',own'⟩ w1 m' (if fin then upd ov i true else ov) (fun _=>false)) (hO:OwnStep i own own' w.heap.size) (hFr:Frm i own w w1) (hs:w'.heap.size=w1.heap.size) (hb:∀ b,b≠U.back→w'.heap[b]?=w1.heap[b]?)
  (ht:Tn U (if fin then upd ov i true else ov) (fun _=>false) w'):Wd Rep U k m' (upd co i c') (if fin then upd ov i true else ov) own' (upd A i A') (upd w₀ i ⟨w1.heap,m',own'⟩) w':=by
 have hback:own' U.back = .tun:=C1.tun _ (.inr (.inr (.inr (.inr (.inl rfl)))));refine ⟨W.wf,W.kn,ht,C1.tun,hloc _ _ _ _ _ C1.rep (zcr fun b e=>hb b (fun x=>by rw [x,hback] at e;exact e.tun rfl)),fun b h=>C1.fresh b (by omega),fun j hj=>?_,fun j hj=>?_,fun j hj ho b hA=>?_,fun j ho=>?_,fun j ho b v hv=>?_,fun j hj=>?_⟩
 ·by_cases e:j=i
  ·subst e;rw [upd_same,hfin];cases fin
   ·exact hov.symm
   ·exact (upd_same _ _ _).symm
  ·rw [upd_ne _ _ e,W.co j hj];cases fin
   ·rfl
   ·exact (upd_ne _ _ e).symm
 ·have e:j≠i:=by omega
  cases fin
  ·exact W.later j hj
  ·exact (upd_ne _ _ e).trans (W.later j hj)
 ·by_cases e:j=i
  ·subst e;rw [upd_same] at hA ⊢;obtain ⟨q1,q2⟩:=C1.mine b hA;exact ⟨q1,hb b (fun x=>by rw [x,hback] at q1;cases q1)⟩
  ·rw [upd_ne _ _ e] at hA ⊢;have ho':ov j=false:=by
    cases fin
    ·exact ho
    ·exact (upd_ne ov true e).symm.trans ho
   obtain ⟨q1,q2⟩:=W.mine j hj ho' b hA;have hlt:b < w.heap.size:=by
    rcases Nat.lt_or_ge b w.heap.size with h|h
    ·exact h
    ·rw [W.fresh b h] at q1;cases q1
   have e1:own' b = .th j:=(hO.other hlt (by rw [q1];simpa using e) (by rw [q1];simp)).trans q1;refine ⟨e1,?_⟩;rw [hb b (fun x=>by rw [x,hback] at e1;cases e1),hFr.2 b hlt (by rw [q1];simpa using e) (by rw [q1];simp) (by rw [q1];simp)];exact q2
 ·by_cases e:j=i
  ·subst e;rw [upd_same]
  ·rw [upd_ne _ _ e];have ho':ov j=false:=by
    cases fin
    ·exact ho
    ·exact (upd_ne ov true e).symm.trans ho
   exact (hmm j e).trans (W.pv j ho')
 ·by_cases e:j=i
  ·subst e;rw [upd_same] at hv ⊢;exact ⟨hv,hb b (fun x=>by have hv':own' b = .tag v:=hv;rw [x,hback] at hv';cases hv')⟩
  ·rw [upd_ne _ _ e] at hv ⊢;have ho':ov j=false:=by
    cases fin
    ·exact ho
    ·exact (upd_ne ov true e).symm.trans ho
   obtain ⟨q1,q2⟩:=W.tg j ho' b v hv;have hlt:b < w.heap.size:=by
    rcases Nat.lt_or_ge b w.heap.size with h|h
    ·exact h
    ·rw [W.fresh b h] at q1;cases q1
   have e1:own' b = .tag v:=(hO.other hlt (by rw [q1];simp) (by rw [q1];simp)).trans q1;refine ⟨e1,?_⟩;rw [hb b (fun x=>by rw [x,hback] at e1;cases e1),hFr.2 b hlt (by rw [q1];simp) (by rw [q1];simp) (by rw [q1];simp)];exact q2
 ·by_cases e:j=i
  ·subst e;rw [upd_same];exact hcp
  ·rw [upd_ne _ _ e];exact W.cp j hj
theorem zsr (c':Co M) (A':Nat→Prop) (w1:W0 M):hmG Rep P U (upd co i c') (upd A i A') (upd w₀ i w1)=upd (hmG Rep P U co A w₀) i fun g=>TH Rep P U i c' A' w1 g:=by
 funext j;by_cases e:j=i
 ·subst e;unfold hmG;rw [upd_same,upd_same,upd_same,upd_same]
 ·unfold hmG;rw [upd_ne _ _ e,upd_ne _ _ e,upd_ne _ _ e,upd_ne _ _ e]
def GM (Rep:M→(Nat→Owner)→World→Prop) (P:Program) (U:Tun) (Z:Machine→Trace→Prop) (k:Nat) (co:Nat→Co M) (ov:Nat→Bool) (A:Nat→Nat→Prop) (w₀:Nat→W0 M) (g:Goroutine) (w:World):Prop :=
 ∀ d B T gs q sl home,gs[0]?=some g→gs.size=U.g0+k→Ring P U.K U.Still B (zwf (zel U k ov (hmG Rep P U co A w₀) home) 0) (zel U k ov (hmG Rep P U co A w₀) home) 0 T gs (w.at d) q→Reach P Z (crowd gs (w.at d) sl) T
variable {Z:Machine→Trace→Prop}
theorem gm_xc (hg0:0 < U.g0) (hkn:k≤U.n):XC P true U.K U.Still U.Inb (GM Rep P U Z k co ov A w₀):=by
 refine ⟨fun g w hF d B T gs q sl home hg hsz R=>?_,fun g w d h d'=>h d'⟩;have hF':Fut P true (DX U.K U.Still (zel U k ov (hmG Rep P U co A w₀) home)) (GM Rep P U Z k co ov A w₀) g (w.at d):=Fut.at (fun g w d h=>(fun d'=>h d':GM Rep P U Z k co ov A w₀ g (w.at d))) (zv2 (zv6 fun j s c e hc=>zv1 hg0 (zlg hkn e hc)) hF) d;obtain ⟨N,B',gs',a',w',sl',T',q',hr,_,hsz',ha',hS,C'⟩:=zoj (sl:=sl) (h:=0) (fun w d (h:U.K w)=>h.at d) hF' hg R;exact Reach.then hr (hS w'.drawn B' T' gs' q' sl' home ha' (hsz'.trans hsz) C')
theorem Wd.chan (W:Wd Rep U k m co ov own A w₀ w) (hloc:zcp Rep) {c cap x d:Nat} (hc:c=U.back∨∃ j,j < U.n∧c=U.pass j) (e:w.heap[c]?=some (.chan cap #[] false x x false)):Wd Rep U k m co ov own A w₀ ((w.at d).setChan c cap #[] false (x+1) (x+1) false):=by
 have hb:∀ b,b≠c→((w.at d).setChan c cap #[] false (x+1) (x+1) false).heap[b]?=w.heap[b]?:=fun b hb=>heap_setChan_ne (w.at d) _ _ _ _ _ _ (fun z=>hb z.symm);have hown:own c = .tun:=by
  rcases hc with rfl|⟨j,hj,rfl⟩
  ·exact W.tun _ (.inr (.inr (.inr (.inr (.inl rfl)))))
  ·exact W.tun _ (.inr (.inr (.inr (.inr (.inr ⟨j,hj,.inr rfl⟩)))))
 refine ⟨W.wf,W.kn,(W.tn.of_heap (w':=w.at d) rfl).turned W.wf hc e,W.tun,hloc _ _ _ _ _ W.rep (zcr fun b eb=>hb b (fun z=>by rw [z,hown] at eb;exact eb.tun rfl)),fun b h=>W.fresh b (by simpa [World.setChan,World.at] using h),W.co,W.later,fun j hj ho b hA=>?_,W.pv,fun j ho b v hv=>⟨(W.tg j ho b v hv).1,(hb b (fun z=>by have q1:=(W.tg j ho b v hv).1;rw [z,hown] at q1;cases q1)).trans (W.tg j ho b v hv).2⟩,W.cp⟩;obtain ⟨q1,q2⟩:=W.mine j hj ho b hA;exact ⟨q1,(hb b (fun z=>by rw [z,hown] at q1;cases q1)).trans q2⟩
theorem Wd.of_heap (W:Wd Rep U k m co ov own A w₀ w) (hloc:zcp Rep) (e:w'.heap=w.heap):Wd Rep U k m co ov own A w₀ w' :=
 ⟨W.wf,W.kn,W.tn.of_heap e,W.tun,hloc _ _ _ _ _ W.rep (zcr fun b eb=>by rw [e]),fun b h=>W.fresh b (by rwa [e] at h),W.co,W.later,fun j hj ho b hA=>by rw [e];exact W.mine j hj ho b hA,W.pv,fun j ho b v hv=>by rw [e];exact W.tg j ho b v hv,W.cp⟩
end
def zty (P:Program) (main:Bool) (c:Nat) (v:Value) (Aft:Goroutine→Prop) (g:Goroutine) (w:World):Prop :=
 g.status = .running∧∃ g₂ z',(∀ d,stepG P main g (w.at d) = .comm g₂ #[scase c v z'] true .send (w.at d) #[])∧Aft (Go.Conc.served g₂ undef)
def AtGo (P:Program) (main:Bool) (Child Aft:Goroutine→Prop) (g:Goroutine) (w:World):Prop :=
 g.status = .running∧∃ g' child,(∀ d,stepG P main g (w.at d) = .spawn g' child (w.at d) #[])∧Child child∧Aft g'
section
variable {M:Type} [Priv M] {Rep:M→(Nat→Owner)→World→Prop} {P:Program} {U:Tun} {i k:Nat} {own own':Nat→Owner} {A:Nat→Nat→Prop} {w₀:Nat→W0 M} {w w':World} {m m':M} {co:Nat→Co M} {ov:Nat→Bool} {Z:Machine→Trace→Prop} {g:Goroutine}
def zgf (Rep:M→(Nat→Owner)→World→Prop) (P:Program) (U:Tun) (Z:Machine→Trace→Prop) (i k:Nat) (own:Nat→Owner) (A:Nat→Nat→Prop) (w₀:Nat→W0 M) (co:Nat→Co M) (ov:Nat→Bool) (w:World) (m':M) (c':Co M) (g₂:Goroutine):Prop :=
 ∀ v own' A' w1 w',Wd Rep U k m' (upd co i c') (if c'.isFin then upd ov i true else ov) own' (upd A i A') (upd w₀ i w1) w'→OwnStep i own own' w.heap.size→w.heap.size≤w'.heap.size →
  (∀ b,b < w.heap.size→own b = .out→own' b = .out∧w'.heap[b]?=w.heap[b]?)→GM Rep P U Z k (upd co i c') (if c'.isFin then upd ov i true else ov) (upd A i A') (upd w₀ i w1) (Go.Conc.served g₂ v) w'
theorem zpz {w1:World} (W:∀ b,U.blk b→own b = .tun) (hlt:U.back < w.heap.size) (hO:OwnStep i own own' w.heap.size) (hFr:Frm i own w w1) (hb:∀ b,b≠U.back→w'.heap[b]?=w1.heap[b]?):∀ b,b < w.heap.size→own b = .out→own' b = .out∧w'.heap[b]?=w.heap[b]?:=fun b hlt e=>by
 refine ⟨(hO.other hlt (by rw [e];simp) (by rw [e];simp)).trans e,?_⟩;rw [hb b (fun x=>by rw [x,W _ (.inr (.inr (.inr (.inr (.inl rfl)))))] at e;cases e)];exact hFr.2 b hlt (by rw [e];simp) (by rw [e];simp) (by rw [e];simp)
theorem gm_let (hloc:zcp Rep) (W:Wd Rep U k m co ov own A w₀ w) (hik:i < k) (hov:ov i=false) {v:Bool} {c':Co M}
  (hc:(v=false∧m'=m∧c' = .fin)∨(v=true∧∃ nx mo,co i = .step nx mo∧m'=nx m∧c'=mo m))
  (h:zty P true (U.pass i) (.bool v) (fun a=>zh0 P U true (Seat.one U.back (.agg #[]) false (zgf Rep P U Z i k own A w₀ co ov w m' c')) a) g w):GM Rep P U Z k co ov A w₀ g w:=by
 intro d B T gs q sl home hg hsz R;have hi:i < U.n:=Nat.lt_of_lt_of_le hik W.kn;have hg0:=W.wf.g0;obtain ⟨hrun,g₂,z',hsend,haft⟩:=h;obtain ⟨n,B0,hs⟩:=zhq haft;have hback:∃ x,w.heap[U.back]?=some (.chan 0 #[] false x x false):=W.tn.back;obtain ⟨x,hx⟩:=hback;have R':=zfa R (Nat.le_max_left B (max B0 (U.back+1)));have R1:=R'.reseat (.inr rfl) (Seat.one U.back (.agg #[]) false (zgf Rep P U Z i k own A w₀ co ov w m' c')) (Seat.one_wf _ _ _ _) (fun j s c hj e hc hn=>by
   have e1:c=U.back:=Seat.one_has.1 hn;rcases zg2 e with ⟨z,_⟩|⟨q1,q2,_,rfl⟩
   ·exact hj z
   ·have e2:c=U.pass (j - U.g0):=Seat.one_has.1 hc;exact W.wf.back (j - U.g0) (by have:=W.kn;omega) (e2.symm.trans e1)) (fun c hc=>by
   rw [show c=U.back from Seat.one_has.1 hc]
   exact ⟨0,x,hx⟩) (fun c hc=>by
   rw [show c=U.back from Seat.one_has.1 hc]
   omega)
 have eI:upd (zel U k ov (hmG Rep P U co A w₀) home) 0 (some (Seat.one U.back (.agg #[]) false (zgf Rep P U Z i k own A w₀ co ov w m' c')))=zel U k ov (hmG Rep P U co A w₀) (zgf Rep P U Z i k own A w₀ co ov w m' c'):=by
  funext j;by_cases e:j=0
  ·subst e;rw [upd_same];rfl
  ·rw [upd_ne _ _ e];unfold zel;rw [if_neg e,if_neg e]
 rw [eI] at R1;have hKc:∀ ww i' s c cap buf cl a b tm,zel U k ov (hmG Rep P U co A w₀) (zgf Rep P U Z i k own A w₀ co ov w m' c') i'=some s→s.has c→U.K ww→U.K (ww.setChan c cap buf cl a b tm):=fun ww j s c cap buf cl x y tm e hc hK=>hK.setChan (W.tn.apart (zlg W.kn e hc)) _ _ _ _ _ _;have hgsz:U.g0+i < gs.size:=by omega
 have hth:zel U k ov (hmG Rep P U co A w₀) (zgf Rep P U Z i k own A w₀ co ov w m' c') (U.g0+i)=some (ze9 U i (hmG Rep P U co A w₀ i)):=zso hg0 hik hov;obtain ⟨N2,m2,T2,r2,gs2,gi,d2,k2,cp2,sl2,q2,rfl,z2,h2,hhome,hc2,R4⟩:=give (sl:=sl) (h:=0) (w:=w.at d) (Mem:=zwf (zel U k ov (hmG Rep P U co A w₀) home) 0) (B:=max B (max B0 (U.back+1))) (j:=U.g0+i) (s:=ze9 U i (hmG Rep P U co A w₀ i)) (c:=U.pass i) (kk:=0) (z := .bool false) (v := .bool v) (z':=z') (a₂:=g₂) (es:=#[]) (fun w d (h:U.K w)=>h.at d) hKc (by omega) hgsz hth rfl (.inr rfl) hg hrun (fun d'=>hsend d') (by simp) R1 (Inb':=zel U k ov (hmG Rep P U co A w₀) (zgf Rep P U Z i k own A w₀ co ov w m' c')) (fun _ _=>rfl) (.inl rfl) (nh:=n) (fun T' hd=>hs _ (by omega));have hhome':TH Rep P U i (co i) (A i) (w₀ i) gi:=hhome;have R5:=zii R4 (fun g hg=>⟨by
  rcases hg with hg|rfl
  ·exact .inl (zjm hg)
  ·exact .inl (zjm (by rw [hth];simp)),by
  rcases hg with hg|rfl
  ·exact .inl hg
  ·exact .inr rfl⟩)
 have W2:=W.chan (d:=d2) hloc (.inr ⟨i,hi,rfl⟩) (show w.heap[U.pass i]?=_ from hc2)
 have C2:=W2.ctx hi (A i) (w₀ i) (W2.mine i hik hov) (W2.pv i hov) (W2.tg i hov);have hw2s:(((w.at d).at d2).setChan (U.pass i) cp2 #[] false (k2+1) (k2+1) false).heap.size=w.heap.size:=by simp [World.setChan,World.at]
 have hFut:Fut P false U.DX (ThOut Rep P U i own (((w.at d).at d2).setChan (U.pass i) cp2 #[] false (k2+1) (k2+1) false) m' c'.isFin (fun A w₀ g=>TH Rep P U i c' A w₀ g) ov (fun _=>false)) (Go.Conc.served gi (.bool v)) (((w.at d).at d2).setChan (U.pass i) cp2 #[] false (k2+1) (k2+1) false):=by
  rcases hc with ⟨rfl,rfl,rfl⟩|⟨rfl,nx,mo,e,rfl,rfl⟩
  ·cases e:co i with
   | fin=>rw [e] at hhome';exact hhome'.elim
   | cut=>rw [e] at hhome';exact hhome' _ _ _ _ _ C2
   | step nx mo=>rw [e] at hhome';exact hhome'.2 _ _ _ _ _ C2
  ·rw [e] at hhome';exact hhome'.1 _ _ _ _ _ C2
 obtain ⟨N3,gs3,w1,w',sl3,T3,q3,B3,g0',v',own',A',r3,z3,h3,hh3,R3,C3,hO,hFr,hs3,hb3,ht3⟩:=zl6 (sl:=sl2) hloc hi hik W.kn W.wf hov rfl h2 hFut R5 (fun _ _=>rfl) (fun s e=>⟨_,yaw (e.symm.trans hth)⟩);have hpp:(∀ j,j≠i→Priv.get j m'=Priv.get j m)∧znj i c':=by
  rcases hc with ⟨_,rfl,rfl⟩|⟨_,nx,mo,e,rfl,rfl⟩
  ·exact ⟨fun _ _=>rfl,trivial⟩
  ·have:=W.cp i hik;rw [e] at this;exact ⟨this.1 m,this.2 m⟩
 have W3:=W2.turned hloc hik hov rfl hpp.1 hpp.2 C3 hO hFr hs3 hb3 ht3;rw [hw2s] at hO;have hle:w.heap.size≤w'.heap.size:=by have:=hFr.1;rw [hw2s] at this;omega
 have hout:∀ b,b < w.heap.size→own b = .out→own' b = .out∧w'.heap[b]?=w.heap[b]?:=fun b hlt e=>by
  have hbb:U.back < w.heap.size:=W.tn.lt (.inr (.inr (.inr (.inr (.inl rfl)))));obtain ⟨e1,e2⟩:=zpz (w:=((w.at d).at d2).setChan (U.pass i) cp2 #[] false (k2+1) (k2+1) false) W.tun (by rw [hw2s];exact hbb) (by rw [hw2s];exact hO) hFr hb3 b (by rw [hw2s];exact hlt) e;exact ⟨e1,e2.trans (heap_setChan_ne ((w.at d).at d2) _ _ _ _ _ _ (fun z=>by
   rw [← z,W.tun _ (.inr (.inr (.inr (.inr (.inr ⟨i,hi,.inr rfl⟩)))))] at e;cases e))⟩
 have hGM:=hh3 v' own' A' _ w' W3 hO hle hout;refine Reach.then (runNT_then r2 r3) ?_;have hgs:gs3.size=U.g0+k:=by rw [z3,z2,hsz]
 rw [← zsr] at R3;exact hGM w'.drawn B3 T3 gs3 q3 sl3 _ h3 hgs R3
theorem gm_hire (hloc:zcp Rep) (W:Wd Rep U k m co ov own A w₀ w) (hk:k < U.n) {φ:Fu M} (hφ:zbi k φ)
  (h:AtGo P true (fun child=>GOF Rep P U k φ (fun _=>False) (w₀ k) child) (fun a=>zh0 P U true (Seat.one U.back (.agg #[]) false (zgf Rep P U Z k (k+1) own A w₀ co ov w (φ m).1 (φ m).2)) a) g w):GM Rep P U Z k co ov A w₀ g w:=by
 intro d B T gs q sl home hg hsz R;have hg0:=W.wf.g0;obtain ⟨hrun,g',child,hgo,hG,haft⟩:=h;obtain ⟨n,B0,hs⟩:=zhq haft;obtain ⟨x,hx⟩:=W.tn.back;have R':=zfa R (Nat.le_max_left B (max B0 (U.back+1)));have R1:=R'.reseat (.inr rfl) (Seat.one U.back (.agg #[]) false (zgf Rep P U Z k (k+1) own A w₀ co ov w (φ m).1 (φ m).2)) (Seat.one_wf _ _ _ _) (fun j s c hj e hc hn=>by
   have e1:c=U.back:=Seat.one_has.1 hn;rcases zg2 e with ⟨z,_⟩|⟨q1,q2,_,rfl⟩
   ·exact hj z
   ·have e2:c=U.pass (j - U.g0):=Seat.one_has.1 hc;exact W.wf.back (j - U.g0) (by omega) (e2.symm.trans e1)) (fun c hc=>by
   rw [show c=U.back from Seat.one_has.1 hc]
   exact ⟨0,x,hx⟩) (fun c hc=>by
   rw [show c=U.back from Seat.one_has.1 hc]
   omega)
 have eI:upd (zel U k ov (hmG Rep P U co A w₀) home) 0 (some (Seat.one U.back (.agg #[]) false (zgf Rep P U Z k (k+1) own A w₀ co ov w (φ m).1 (φ m).2)))=zel U k ov (hmG Rep P U co A w₀) (zgf Rep P U Z k (k+1) own A w₀ co ov w (φ m).1 (φ m).2):=by
  funext j;by_cases e:j=0
  ·subst e;rw [upd_same];rfl
  ·rw [upd_ne _ _ e];unfold zel;rw [if_neg e,if_neg e]
 rw [eI] at R1;have hnew:zel U k ov (hmG Rep P U co A w₀) (zgf Rep P U Z k (k+1) own A w₀ co ov w (φ m).1 (φ m).2) gs.size=none:=by
  rw [hsz];exact zjl (by omega) (by omega)
 obtain ⟨N2,gs2,d2,sl2,T2,q2,r2,z2,h2,R4⟩:=hire_give (sl:=sl) (h:=0) (w:=w.at d) (Mem:=zwf (zel U k ov (hmG Rep P U co A w₀) home) 0) (B:=max B (max B0 (U.back+1))) (fun w d (h:U.K w)=>h.at d) (.inr rfl) hg hrun (fun d'=>hgo d') (by simp) R1 hnew (Inb':=zel U k ov (hmG Rep P U co A w₀) (zgf Rep P U Z k (k+1) own A w₀ co ov w (φ m).1 (φ m).2)) (fun _ _=>rfl) (.inl rfl) (nh:=n) (fun T' hd=>hs _ (by omega));rw [hsz] at h2 R4;have R5:=zii R4 (fun g hg=>by
  rcases hg with hg|rfl
  ·exact .inl ⟨.inl (zjm hg),hg⟩
  ·exact .inr rfl)
 have hkk:k≤k+1:=Nat.le_succ k;have C2:Ctx Rep U k own (fun _=>False) (w₀ k) ((w.at d).at d2) m ov (fun _=>false):=(W.of_heap hloc (w':=(w.at d).at d2) rfl).ctx hk _ _ (fun b z=>z.elim) (W.pv k (W.later k (yax _))) ((W.of_heap hloc (w':=(w.at d).at d2) rfl).tg k (W.later k (yax _)));have hFut:=hG _ _ _ _ _ C2;have hovk:=W.later k (yax _);have hI:∀ j,j≠U.g0+k→zel U k ov (hmG Rep P U co A w₀) (zgf Rep P U Z k (k+1) own A w₀ co ov w (φ m).1 (φ m).2) j=zel U (k+1) ov (hmG Rep P U co A w₀) (zgf Rep P U Z k (k+1) own A w₀ co ov w (φ m).1 (φ m).2) j:=fun j hj=>by
  unfold zel;by_cases e:j=0
  ·rw [if_pos e,if_pos e]
  ·rw [if_neg e,if_neg e];by_cases e2:U.g0≤j∧j < U.g0+k∧ov (j - U.g0)=false
   ·rw [if_pos e2,if_pos ⟨e2.1,by omega,e2.2.2⟩]
   ·rw [if_neg e2,if_neg (fun z=>e2 ⟨z.1,by omega,z.2.2⟩)]
 obtain ⟨N3,gs3,w1,w',sl3,T3,q3,B3,g0',v',own',A',r3,z3,h3,hh3,R3,C3,hO,hFr,hs3,hb3,ht3⟩:=zl6 (sl:=sl2) (k:=k+1) (c':=(φ m).2) hloc hk (Nat.lt_succ_self k) hk W.wf hovk rfl h2 hFut R5 hI (fun s e=>by
  rw [← hsz,hnew] at e;cases e)
 have W1:Wd Rep U (k+1) m (upd co k (.step id fun _ => .fin)) ov own (upd A k fun _=>False) w₀ ((w.at d).at d2):=by
  have W':=W.of_heap hloc (w':=(w.at d).at d2) rfl;refine ⟨W'.wf,hk,W'.tn,W'.tun,W'.rep,W'.fresh,fun j hj=>?_,fun j hj=>W'.later j (by omega),fun j hj ho b hA=>?_,W'.pv,W'.tg,fun j hj=>?_⟩
  ·by_cases e:j=k
   ·subst e;rw [upd_same,hovk];rfl
   ·rw [upd_ne _ _ e];exact W'.co j (by omega)
  ·by_cases e:j=k
   ·subst e;rw [upd_same] at hA;exact hA.elim
   ·rw [upd_ne _ _ e] at hA;exact W'.mine j (by omega) ho b hA
  ·by_cases e:j=k
   ·subst e;rw [upd_same];exact ⟨fun _ _ _=>rfl,fun _=>trivial⟩
   ·rw [upd_ne _ _ e];exact W'.cp j (by omega)
 have W3:=W1.turned hloc (Nat.lt_succ_self k) hovk rfl (hφ m).1 (hφ m).2 C3 hO hFr hs3 hb3 ht3;have eu:∀ {α:Type} (f:Nat→α) (x y:α),upd (upd f k x) k y=upd f k y:=fun f x y=>by
  funext j;by_cases e:j=k
  ·subst e;rw [upd_same,upd_same]
  ·rw [upd_ne _ _ e,upd_ne _ _ e,upd_ne _ _ e]
 rw [eu,eu] at W3;have hle:w.heap.size≤w'.heap.size:=by have:=hFr.1;rw [hs3];exact this
 have hGM:=hh3 v' own' A' _ w' W3 hO hle (zpz (w:=(w.at d).at d2) W.tun (W.tn.lt (.inr (.inr (.inr (.inr (.inl rfl)))))) hO hFr hb3);refine Reach.then (runNT_then r2 r3) ?_;have hgs:gs3.size=U.g0+(k+1):=by rw [z3,z2,hsz];rfl
 rw [← zsr] at R3;exact hGM w'.drawn B3 T3 gs3 q3 sl3 _ h3 hgs R3
end
def RM (P:Program) (Z:Machine→Trace→Prop) (g:Goroutine) (w:World):Prop :=
 ∀ d B T gs q sl,gs[0]?=some g→Leavers P T gs q→Past (fun _=>False) B T→Reach P Z (crowd gs (w.at d) sl) T
def ZEnd (P:Program) (Post:Value→World→Prop) (m:Machine) (T:Trace):Prop :=
 ∃ N last o w' t',runNT P (N+1) m T=(.ended o w',t')∧runN P N m = .next last∧step P last = .ended o w'∧Good P Post last o w' t'
section
variable {P:Program} {Z:Machine→Trace→Prop} {g:Goroutine} {w:World}
theorem rm_xc:XC P true (fun _=>True) (fun _=>False) (fun _=>none) (RM P Z):=by
 refine ⟨fun g w hF d B T gs q sl hg hL hP=>?_,fun g w d h d'=>h d'⟩;have R0:Ring P (fun _=>True) (fun _=>False) B (fun g=>g=0) (fun _=>none) 0 T gs (w.at d) q:=ring_begin (fun _ z=>z.elim) hL hP trivial;have hF':Fut P true (DX (fun _=>True) (fun _=>False) (fun _=>none)) (RM P Z) g (w.at d):=Fut.at (fun g w d h=>(fun d'=>h d':RM P Z g (w.at d))) hF d;obtain ⟨N,B',gs',a',w',sl',T',q',hr,_,hsz',ha',hS,C'⟩:=zoj (sl:=sl) (h:=0) (fun w d _=>trivial) hF' hg R0;obtain ⟨L,Pp⟩:=ring_end C' rfl (fun _ _=>rfl);exact Reach.then hr (hS w'.drawn B' T' gs' q' sl' ha' L Pp)
theorem zax (w:World):Seats (fun _=>none) (fun _=>True) (fun _=>False) (fun _=>none) w :=
 ⟨fun b r h=>(by cases h),fun _ _ _ _=>trivial,fun _ h=>h.elim,fun _ _ _ h=>by cases h⟩
theorem zbx (w:World):poi (fun _=>none) w=w:=by
 obtain ⟨hp,t,d,o,u⟩:=w;unfold poi;congr 1;apply Array.ext_getElem?;intro b;simp only [Array.getElem?_mapIdx];cases hp[b]?<;>rfl
theorem zrt {z:Bool} {fr:Frame} {v:Value} (hres:zbr z P fr.fn) (h:fr.leaving P w (.returned v)) (hi:P.inits.idxOf? fr.fn=none):∃ es,(∀ e∈es,evF e)∧∀ d,stepG P true (G fr []) (w.at d) = .ended (.done v) (w.at d) es:=by
 obtain ⟨h1,h2,h3,fn,h4,h5⟩:=h;obtain ⟨fn',e,ht⟩:=hres;rw [h4] at e;cases e;have hev:=za5 (ht fr.tmps) w #[] (by simp);have hr:((results fn fr.tmps).runT P w #[]).1 = .ok v w:=by rw [zar,h5]
 have hm:fr.mode ≠ .run:=by rw [h1];simp
 rcases hx:(results fn fr.tmps).runT P w #[] with ⟨r,es⟩;rw [hx] at hr hev;simp only at hr hev;subst hr;refine ⟨seen P fr.fn es,zrz es hev,fun d=>?_⟩;have hd:=(zb8 (ht fr.tmps) w.tape w #[] d (fun j hj=>by rw [hx] at hj;simp only [rw'] at hj;omega)).1;rw [hx] at hd;simp only [reR,rw',Nat.sub_self,Nat.add_zero] at hd;have hd':(results fn fr.tmps).runT P (w.at d) #[]=(.ok v (w.at d),es):=hd;rw [zbl hm];unfold unwind;rw [h2];simp only [h1,h4,hd',doReturn,h3,hi];simp [GStep.after]
theorem rm_end {z:Bool} {Post:Value→World→Prop} {fr:Frame} {v:Value} (hres:zbr z P fr.fn) (h:fr.leaving P w (.returned v)) (hi:P.inits.idxOf? fr.fn=none) (hp:∀ d,Post v (w.at d)):RM P (ZEnd P Post) (G fr []) w:=by
 intro d B T gs q sl hg hL hP;obtain ⟨es,hes,hst⟩:=zrt hres h hi;obtain ⟨B0,hB0⟩:=zsk es;have hE:∀ w₁,AtRel (w.at d) w₁→AtEnd P (fun _=>False) (max B B0) Post (G fr []) w₁:=by
  rintro w₁ ⟨d',rfl⟩;exact ⟨rfl,v,es,hst d',fun e he=>⟨fun _ _ z=>z.elim,(hes e he).1,(hes e he).2.1,hB0 _ (Nat.le_max_right _ _) e he⟩,hp d'⟩
 obtain ⟨N,last,o,w',t',h1,h2,h3,h4⟩:=beside_ends (D:=fun w w' es=>es=#[]) (n:=0) (sl:=sl) (fun w w' es h e he=>by rw [h] at he;simp at he) hg hL (hP.mono (Nat.le_max_left _ _)) hE;exact ⟨0,_,_,rfl,N,last,o,w',t',h1,h2,h3,h4⟩
theorem rm_run {Post:Value→World→Prop} (h:RM P (ZEnd P Post) g w):∃ N last o w' t',runNT P (N+1) (solo g w) #[]=(.ended o w',t')∧runN P N (solo g w) = .next last∧step P last = .ended o w'∧Good P Post last o w' t':=by
 have h0:=h w.drawn 0 #[] #[g] (fun _=>0) none rfl (leavers_one P g) past_nil;obtain ⟨N,m',T',hr,N',last,o,w',t',h1,h2,h3,h4⟩:=h0;refine ⟨N+N',last,o,w',t',?_,?_,h3,h4⟩
 ·rw [Nat.add_assoc,solo_eq_crowd,runNT_add];show (match runNT P N (crowd #[g] (w.at w.drawn) none) #[] with
   | (.next m',T')=>runNT P (N'+1) m' T'
   | r=>r)=_
  rw [hr];exact h1
 ·rw [runN_add,solo_eq_crowd];have:runN P N (crowd #[g] w none) = .next m':=by rw [← runNT_fst P _ _ #[]];exact congrArg Prod.fst hr
  rw [this];exact h2
variable {z:Bool} {C:FuncId→Prop} {c:Frame} {cs:List Frame}
theorem zch (hP:Prg z P C) {f:FuncId} (hC:C f) {args:Array Value} {R:Value→World→Prop} (hR:∀ v,zp0 (R v)) (h:∀ τ d,Calls P f args (re τ d w) fun e w'=>∃ v,e = .returned v∧R v w')
  (cont:∀ v w',R v w'→RM P Z (G (c.finish v) cs) w'):RM P Z (G (Frame.enter P f args .normal) (c::cs)) w:=by
 refine rm_xc.closed _ _ ((zsw hP hC hR h (c::cs) true).bind fun g w' ⟨fr,v,e,hfn,hl,hv⟩=>?_);subst e;have hres:zbr z P fr.fn:=by rw [hfn];exact (hP.fns f hC).res
 refine Fut.step' rfl fun d'=>?_;have hl':=zhr hres hl w'.tape d';obtain ⟨es,hes,hst⟩:=zn2 (c:=c) (cs:=cs) hres hl' true;exact ⟨_,_,es,hst,dl_of hes,.stop (cont v _ (hR v _ _ _ hv))⟩
end
section
variable {M:Type} [Priv M] {Rep:M→(Nat→Owner)→World→Prop} {P:Program} {k:Nat} {A:Nat→Nat→Prop} {w₀:Nat→W0 M} {w:World} {co:Nat→Co M} {ov bv:Nat→Bool} {Z:Machine→Trace→Prop} {g:Goroutine}
theorem rm_open {U:Nat→Tun} (hU:∀ n,(U n).g0=n) (ht:∀ n,Tn (U n) ov bv w) (ho:∀ n,w.os=(U n).outs.1∧w.output=(U n).outs.2) (h:∀ n,0 < n→GM Rep P (U n) Z 0 co ov A w₀ g w):RM P Z g w:=by
 intro d B T gs q sl hg hL hP;have h0:0 < gs.size:=by have:=(yah.1 hg).1;omega
 generalize hn:gs.size=n at h0;have hT:=ht n;have hTd:Tn (U n) ov bv (w.at d):=hT.of_heap rfl;have R0:Ring P (U n).K (U n).Still B (fun g=>g=0) (fun _=>none) 0 T gs (w.at d) q:=ring_begin (fun l hl=>by rcases hl with rfl|rfl|⟨i,_,rfl⟩<;>rfl) hL hP (hTd.k (ho n));have R1:=zfa R0 (Nat.le_max_left B ((U n).back+1));obtain ⟨x,hx⟩:=hTd.back;have R2:=R1.reseat rfl (Seat.one (U n).back (.agg #[]) false (fun _=>True)) (Seat.one_wf _ _ _ _) (fun _ _ _ _ e=>by cases e) (fun c hc=>⟨0,x,by rw [show c=(U n).back from Seat.one_has.1 hc];exact hx⟩) (fun c hc=>by rw [show c=(U n).back from Seat.one_has.1 hc];omega)
 have eI:upd (fun _=>none) 0 (some (Seat.one (U n).back (.agg #[]) false (fun _=>True)))=zel (U n) 0 ov (hmG Rep P (U n) co A w₀) fun _=>True:=by
  funext j;by_cases e:j=0
  ·subst e;rw [upd_same];rfl
  ·rw [upd_ne _ _ e,zjl e (fun z=>by omega)]
 rw [eI] at R2;exact h n h0 d _ T gs q sl _ hg (by rw [hU,hn];rfl) (zke R2 (fun g hg=>by
  rcases hg with hg|rfl
  ·by_cases e:g=0
   ·exact e
   ·exact absurd (zjl e (fun z=>by omega)) hg
  ·rfl) (fun i s e => .inl (by rw [e];simp)) fun i h=>h)
theorem zu7 {U:Tun} (hov:∀ i,i < k→ov i=true) (h:w.os=U.outs.1∧w.output=U.outs.2→RM P Z g w):GM Rep P U Z k co ov A w₀ g w:=by
 intro d B T gs q sl home hg hsz R;have hno:∀ i,i≠0→zel U k ov (hmG Rep P U co A w₀) home i=none:=fun i hi=>zjl hi (fun z=>by
  rw [hov _ (by omega)] at z;exact absurd z.2.2 (by simp))
 obtain ⟨L,Pp⟩:=ring_end R (.inr rfl) hno;exact h R.keep.outs d B T gs q sl hg L Pp
end
end Go.Proofs.Ytofacoojpgkbiaa
