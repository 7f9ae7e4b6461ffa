/-
  Merged out of: KOver6 KOver7 KOver8 KOver9 KPick0. No condition of its own.
-/
import Derived.Test.YtofacoojpgkbiaaPlaysP16
set_option linter.unusedVariables false
set_option maxHeartbeats 8000000
set_option linter.unusedSimpArgs false
/-
 OVER: the schedule,the rounds. No condition of its own.
-/
namespace Go.Proofs.Ytofacoojpgkbiaa
open Go.Conc Go.RowKit
open Go.ConcN (upd upd_ne upd_same sumTo)
set_option maxRecDepth 100000
section
variable {M:Type} {n mo:Nat}
theorem stepO_ord (s:GSt M) (i:Int) (h:s.ord.length≤mo):s.ord.length≤(zcq n mo s i).ord.length∧(zcq n mo s i).ord.length≤mo:=by
 unfold zcq
 split
 ·
  rename_i hh
  split
  ·
   exact ⟨Nat.le_refl _,h⟩
  ·
   exact ⟨Nat.le_refl _,h⟩
  ·
   simp;omega
 ·
  exact ⟨Nat.le_refl _,h⟩
def foldO (n mo:Nat) (s:GSt M) (l:List Int):GSt M:=l.foldl (zcq n mo) s
theorem foldO_ord:∀ (l:List Int) (s:GSt M),s.ord.length≤mo→s.ord.length≤(foldO n mo s l).ord.length∧(foldO n mo s l).ord.length≤mo
 | [],s,h=>⟨Nat.le_refl _,h⟩
 | i::l,s,h=>by
  have h1:=stepO_ord (n:=n) s i h
  have h2:=foldO_ord l (zcq n mo s i) h1.2
  exact ⟨Nat.le_trans h1.1 h2.1,h2.2⟩
theorem stepO_co (s:GSt M) (i:Int) (j:Nat) (h:i≠j):(zcq n mo s i).co j=s.co j:=by
 unfold zcq
 split
 ·
  split
  ·
   rfl
  ·
   rfl
  ·
   exact upd_ne _ _ (by omega)
 ·
  rfl
structure OkG (n mo:Nat) (s:GSt M):Prop where
 le:s.ord.length≤mo
 deep:∀ j,j < n→Deep (mo - s.ord.length) (s.co j)
theorem OkG.step {s:GSt M} (h:OkG n mo s) (i:Int):OkG n mo (zcq n mo s i):=by
 refine ⟨(stepO_ord (n:=n) s i h.le).2,?_⟩
 unfold zcq
 split
 ·
  rename_i hh
  split
  ·
   exact h.deep
  ·
   exact h.deep
  ·
   rename_i nx mr hc
   intro j hj
   have hle:=h.le
   have e:mo - s.ord.length=(mo - s.ord.length - 1)+1:=by have:=hh.2.2;omega
   show Deep (mo - (s.ord++[i]).length) (Go.ConcN.upd s.co i.toNat (mr s.m) j)
   rw [List.length_append,show mo - (s.ord.length+[i].length)=mo - s.ord.length - 1 by simp;omega]
   by_cases ej:j=i.toNat
   ·
    subst ej
    rw [upd_same]
    have:=h.deep _ hj
    rw [hc,e] at this
    exact this s.m
   ·
    rw [upd_ne _ _ ej]
    have:=h.deep j hj
    rw [e] at this
    exact this.less
 ·
  exact h.deep
theorem OkG.fold {s:GSt M} (h:OkG n mo s):∀ l:List Int,OkG n mo (foldO n mo s l)
 | []=>h
 | i::l=>OkG.fold (h.step i) l
theorem stepO_grows (s:GSt M) (j:Nat) (hj:j < n) (hf:(s.co j).isFin=false) (hD:OkG n mo s) (h:s.ord.length < mo):s.ord.length < (zcq n mo s j).ord.length:=by
 unfold zcq
 rw [if_pos ⟨by omega,by omega,by omega⟩,Int.toNat_natCast]
 cases hc:s.co j with
 | fin=>rw [hc] at hf;cases hf
 | cut =>
  exfalso
  have:=hD.deep j hj
  rw [hc,show mo - s.ord.length=(mo - s.ord.length - 1)+1 by omega] at this
  exact this
 | step nx m=>simp
theorem foldO_grows:∀ (r i:Nat) (s:GSt M),i+r=n→OkG n mo s→s.ord.length < mo→∀ j,i≤j→j < n→(s.co j).isFin=false→s.ord.length < (foldO n mo s ((List.range' i r).map Int.ofNat)).ord.length
 | 0,i,s,h,hD,hm,j,h1,h2,hf=>by omega
 | r+1,i,s,h,hD,hm,j,h1,h2,hf=>by
  have h0:=stepO_ord (n:=n) s (Int.ofNat i) (Nat.le_of_lt hm)
  show s.ord.length < (foldO n mo (zcq n mo s (Int.ofNat i)) ((List.range' (i+1) r).map Int.ofNat)).ord.length
  have hle:=(foldO_ord (n:=n) ((List.range' (i+1) r).map Int.ofNat) _ h0.2).1
  by_cases e:i=j
  ·
   subst e
   exact Nat.lt_of_lt_of_le (stepO_grows s i h2 hf hD hm) hle
  ·
   rcases Nat.lt_or_ge s.ord.length (zcq n mo s (Int.ofNat i)).ord.length with h3 | h3
   ·
    exact Nat.lt_of_lt_of_le h3 hle
   ·
    have e2:(zcq n mo s (Int.ofNat i)).ord.length=s.ord.length:=by omega
    have:=foldO_grows r (i+1) (zcq n mo s (Int.ofNat i)) (by omega) (hD.step _) (by omega) j (by omega) h2 (by rw [stepO_co _ _ _ (fun z=>e (by exact Int.ofNat.inj z))];exact hf)
    omega
theorem leftO_pos {co:Nat→Co M}:∀ k,0 < zbe co k→∃ j,j < k∧(co j).isFin=false
 | 0,h=>by cases h
 | k+1,h=>by
  cases hf:(co k).isFin with
  | false=>exact ⟨k,by omega,hf⟩
  | true =>
   unfold zbe at h
   rw [hf] at h
   obtain ⟨j,h1,h2⟩:=leftO_pos k (by simpa using h)
   exact ⟨j,by omega,h2⟩
def zd0 (n mo:Nat):Nat→GSt M→GSt M
 | 0,s=>s
 | f+1,s=>if 0 < zbe s.co n∧s.ord.length < mo then zd0 n mo f (foldO n mo s ((List.range' 0 n).map Int.ofNat)) else s
end
structure H44 (sch:Value) (N bx bl:Nat) (x:Nat→Value):Prop where
 x1:x 1=sch
 x5:x 5 = .pointer (some ⟨N,0,none⟩)
 x6:x 6 = .pointer (some ⟨N+1,0,none⟩)
 x9:x 9 = .pointer (some ⟨N+2,0,none⟩)
 x10:x 10 = .pointer (some ⟨bx,0,none⟩)
 x11:x 11 = .pointer (some ⟨bl,0,none⟩)
 x13:x 13 = .func (.func 173) #[] #[.pointer (some ⟨N+2,0,none⟩),.pointer (some ⟨bx,0,none⟩),.pointer (some ⟨N+1,0,none⟩),.pointer (some ⟨N,0,none⟩),.pointer (some ⟨bl,0,none⟩)]
def bodyP:Code→Code:=fun c=>cA (cA (cB (cA (nB 8 c))))
section
variable {M:Type} [Priv M] {Rep:M→(Nat→Owner)→World→Prop} {U:Tun} {n:Nat} {own own0:Nat→Owner} {A:Nat→Nat→Prop} {w₀:Nat→W0 M} {w w0:World} {ov:Nat→Bool} {Z:Machine→Trace→Prop} {cs:List Frame} {bl mo:Nat} {R:List Item}
set_option maxRecDepth 100000 in
theorem over_sched (hloc:zc2 Rep) (hU:U.n=n) (hn:n≤64) (hmo:mo≤1048576) {sb so nS cS:Nat} {sd:Nat→Int} (hsd:∀ j,j < nS→w0.cell? ⟨sb,so+j,none⟩=some (.int .i64 (sd j))) (hsb:0 < nS→sb < w0.heap.size∧(own0 sb = .out∨∀ m own w',Rep m own w'→w'.heap[sb]?=w0.heap[sb]?)) (hnS:nS≤1048576) {sch:Value} (hsch:0 < nS→sch = .slice (some ⟨sb,so,none⟩) nS cS)
  {sf:GSt M} (hend:∀ x own A w₀ ov w,H44 sch w0.heap.size U.bx bl x→Wd Rep U n sf.m sf.co ov own A w₀ w→OvM w0 own0 n mo bl (zbe sf.co n) sf.ord own w→GM Rep Try.prog U Z n sf.co ov A w₀ (G ((base 136).at (A44 x) R) cs) w) :
  ∀ r j (s:GSt M) x own A w₀ ov w,j+r=nS→OkG n mo s→foldO n mo s ((List.range' j r).map sd)=sf→H44 sch w0.heap.size U.bx bl x→x 76=sch→x 77 = .int .i64 nS→x 78 = .int .i64 j→Wd Rep U n s.m s.co ov own A w₀ w→OvM w0 own0 n mo bl (zbe s.co n) s.ord own w →
   GM Rep Try.prog U Z n s.co ov A w₀ (G ((base 136).at (A44 x) (.code (bodyP c44) :: .inLoop (bodyP c44) :: .inBlock 4::R)) cs) w:=by
 intro r
 induction r with
 | zero =>
  intro j s x own A w₀ ov w hj hok hs hx h76 h77 h78 W O
  have ho:=hok.le
  replace hok:=Lib.hid hok
  obtain rfl:s=sf:=hs
  obtain rfl:j=nS:=by omega
  refine za4 (zbb W) rfl fun R0 hR0 => ?_
  rw [show cA (bodyP c44)=Code.region _ _ _ from rfl]
  refine zbl prgT W (zab zag (by kernel_rfl)) rfl (zaa Try.func136) rfl fun wp hp => ?_
  replace hend:=Lib.hid hend
  replace W:=Lib.hid W
  replace O:=Lib.hid O
  unfold A44
  simp only [hx.x1,hx.x5,hx.x6,hx.x9,hx.x10,hx.x11,hx.x13,h76,h77,h78]
  go_wp2_with fail
  obtain rfl:=hR0.out
  clear hR0
  refine za4 (zbb W.out) rfl fun R0 hR0 => ?_
  rw [show cA (cB (bodyP c44))=Code.cond _ _ _ from rfl]
  refine zao (zbb W.out) (t:=false) rfl ?_
  obtain rfl:=hR0.out
  clear hR0
  refine x_exit (zbb W.out) rfl ?_
  rw [zdn _ rfl]
  exact hend.out _ _ _ _ _ _ ⟨rfl,rfl,rfl,rfl,rfl,rfl,rfl⟩ W.out O.out
 | succ r ih =>
  intro j s x own A w₀ ov w hj hok hs hx h76 h77 h78 W O
  have ho:=hok.le
  replace hok:=Lib.hid hok
  replace ih:=Lib.hid ih
  replace hs:=Lib.hid hs
  refine za4 (zbb W) rfl fun R0 hR0 => ?_
  rw [show cA (bodyP c44)=Code.region _ _ _ from rfl]
  refine zbl prgT W (zab zag (by kernel_rfl)) rfl (zaa Try.func136) rfl fun wp hp => ?_
  replace hend:=Lib.hid hend
  replace W:=Lib.hid W
  replace O:=Lib.hid O
  have hlt:(j:Int) < nS:=by omega
  unfold A44
  simp only [hx.x1,hx.x5,hx.x6,hx.x9,hx.x10,hx.x11,hx.x13,h76,h77,h78]
  have hsch':=hsch (by omega)
  rw [hsch'] at ih ⊢
  replace hsch':=Lib.hid hsch'
  go_wp2_with fail
  obtain rfl:=hR0.out
  clear hR0
  refine za4 (zbb W.out) rfl fun R0 hR0 => ?_
  rw [show cA (cB (bodyP c44))=Code.cond _ _ _ from rfl]
  refine zao (zbb W.out) (t:=true) rfl ?_
  refine zbq (zbb W.out) ?_
  obtain rfl:=hR0.out
  clear hR0
  refine za4 (zbb W.out) rfl fun R0 hR0 => ?_
  rw [show cA (cB (cB (bodyP c44)))=Code.block _ _ from rfl]
  refine zb4 (zbb W.out) ?_
  refine zae (zbb W.out) fun R1 hR1 => ?_
  refine zbl prgT W.out (zab zag (by kernel_rfl)) rfl (zaa Try.func136) rfl fun wp hp => ?_
  have ct:wp.cell? ⟨sb,so+j,none⟩=some (.int .i64 (sd j)):=by
   obtain ⟨q1,q2⟩:=hsb (by omega)
   refine ((zcd hp _).trans ?_).trans (hsd j (by omega))
   unfold World.cell?
   rcases q2 with q2 | q2
   ·
    rw [(O.out.low sb q1 q2).2]
   ·
    rw [q2 _ _ _ W.out.rep]
  have hk0:(0:Int)≤j:=by omega
  replace hR0:=Lib.hid hR0
  replace hp:=Lib.hid hp
  go_wp2_with fail
  obtain rfl:=hR1.out
  clear hR1
  refine zbi (zbb W.out) 2 (by decide) (by decide) (zaj (by kernel_rfl)) W.out.tn.seats fun wp2 hp2 => ?_
  simp only [List.take_succ_cons,List.take_zero]
  have hOk:=W.out.tn.seats.okd
  replace hp2:=Lib.hid hp2
  go_wp2_with fail
  refine zaf hp2.out hOk ?_
  refine x_callV (zbb W.out) rfl rfl (by decide) rfl rfl Try.func173 (by kernel_rfl) (by kernel_rfl) ?_
  walk_nrm
  refine gm_step hloc W.out O.out hU hn hmo hok.out.le hok.out.deep (sd j) fun own' A' w₁ ov' w' W' O' => ?_
  rw [Frame.finish_at]
  walk_nrm
  refine zad (zbb W') ?_
  obtain rfl:=hR0.out
  clear hR0
  refine zb7 (zbb W') ?_
  rw [show cB (cB (cB (bodyP c44)))=Code.region _ _ _ from rfl]
  refine zbl prgT W' (zab zag (by kernel_rfl)) rfl (zaa Try.func136) rfl fun wp hp => ?_
  have q1:IntKind.i64.wrap ((j:Int)+1)=((j+1:Nat):Int):=by rw [IntKind.wrap_i64];omega
  clear W O
  replace W':=Lib.hid W'
  replace O':=Lib.hid O'
  go_wp2_with fail
  rw [zdn _ rfl]
  refine zcu (zbb W'.out) ?_
  exact ih.out (j+1) (zcq n mo s (sd j)) _ _ _ _ _ _ (by omega) (hok.out.step _) hs.out ⟨rfl,rfl,rfl,rfl,rfl,rfl,rfl⟩ rfl rfl rfl W'.out O'.out
end
end Go.Proofs.Ytofacoojpgkbiaa
/-
 OVER: the rounds behind the schedule. No condition of its own.
-/
namespace Go.Proofs.Ytofacoojpgkbiaa
open Go.Conc Go.RowKit
open Go.ConcN (upd upd_ne upd_same sumTo)
set_option maxRecDepth 100000
def bodyR:Code→Code:=fun c=>cA (cA (cA (nB 9 c)))
def bodyI:Code→Code:=fun c=>cA (cA (cB (cA (cB (bodyR c)))))
section
variable {M:Type} [Priv M] {Rep:M→(Nat→Owner)→World→Prop} {U:Tun} {n:Nat} {own own0:Nat→Owner} {A:Nat→Nat→Prop} {w₀:Nat→W0 M} {w w0:World} {ov:Nat→Bool} {Z:Machine→Trace→Prop} {cs:List Frame} {bl mo:Nat} {R:List Item}
set_option maxRecDepth 100000 in
theorem over_inner (hloc:zc2 Rep) (hU:U.n=n) (hn:n≤64) (hmo:mo≤1048576) {sch:Value}
  {sf:GSt M} (hend:∀ x own A w₀ ov w,H44 sch w0.heap.size U.bx bl x→Wd Rep U n sf.m sf.co ov own A w₀ w→OvM w0 own0 n mo bl (zbe sf.co n) sf.ord own w→GM Rep Try.prog U Z n sf.co ov A w₀ (G ((base 136).at (A44 x) R) cs) w) :
  ∀ r j (s:GSt M) x own A w₀ ov w,j+r=n→OkG n mo s→foldO n mo s ((List.range' j r).map Int.ofNat)=sf→H44 sch w0.heap.size U.bx bl x→x 94 = .int .i64 n→x 95 = .int .i64 j→Wd Rep U n s.m s.co ov own A w₀ w→OvM w0 own0 n mo bl (zbe s.co n) s.ord own w →
   GM Rep Try.prog U Z n s.co ov A w₀ (G ((base 136).at (A44 x) (.code (bodyI c44) :: .inLoop (bodyI c44) :: .inBlock 8::R)) cs) w:=by
 intro r
 induction r with
 | zero =>
  intro j s x own A w₀ ov w hj hok hs hx h94 h95 W O
  have ho:=hok.le
  replace hok:=Lib.hid hok
  obtain rfl:s=sf:=hs
  obtain rfl:j=n:=by omega
  refine za4 (zbb W) rfl fun R0 hR0 => ?_
  rw [show cA (bodyI c44)=Code.region _ _ _ from rfl]
  refine zbl prgT W (zab zag (by kernel_rfl)) rfl (zaa Try.func136) rfl fun wp hp => ?_
  replace hend:=Lib.hid hend
  replace W:=Lib.hid W
  replace O:=Lib.hid O
  unfold A44
  simp only [hx.x1,hx.x5,hx.x6,hx.x9,hx.x10,hx.x11,hx.x13,h94,h95]
  go_wp2_with fail
  obtain rfl:=hR0.out
  clear hR0
  refine za4 (zbb W.out) rfl fun R0 hR0 => ?_
  rw [show cA (cB (bodyI c44))=Code.cond _ _ _ from rfl]
  refine zao (zbb W.out) (t:=false) rfl ?_
  obtain rfl:=hR0.out
  clear hR0
  refine x_exit (zbb W.out) rfl ?_
  rw [zdn _ rfl]
  exact hend.out _ _ _ _ _ _ ⟨rfl,rfl,rfl,rfl,rfl,rfl,rfl⟩ W.out O.out
 | succ r ih =>
  intro j s x own A w₀ ov w hj hok hs hx h94 h95 W O
  have ho:=hok.le
  replace hok:=Lib.hid hok
  replace ih:=Lib.hid ih
  replace hs:=Lib.hid hs
  refine za4 (zbb W) rfl fun R0 hR0 => ?_
  rw [show cA (bodyI c44)=Code.region _ _ _ from rfl]
  refine zbl prgT W (zab zag (by kernel_rfl)) rfl (zaa Try.func136) rfl fun wp hp => ?_
  replace hend:=Lib.hid hend
  replace W:=Lib.hid W
  replace O:=Lib.hid O
  have hlt:(j:Int) < n:=by omega
  unfold A44
  simp only [hx.x1,hx.x5,hx.x6,hx.x9,hx.x10,hx.x11,hx.x13,h94,h95]
  go_wp2_with fail
  obtain rfl:=hR0.out
  clear hR0
  refine za4 (zbb W.out) rfl fun R0 hR0 => ?_
  rw [show cA (cB (bodyI c44))=Code.cond _ _ _ from rfl]
  refine zao (zbb W.out) (t:=true) rfl ?_
  refine zbq (zbb W.out) ?_
  obtain rfl:=hR0.out
  clear hR0
  refine za4 (zbb W.out) rfl fun R0 hR0 => ?_
  rw [show cA (cB (cB (bodyI c44)))=Code.block _ _ from rfl]
  refine zb4 (zbb W.out) ?_
  refine zae (zbb W.out) fun R1 hR1 => ?_
  refine zbl prgT W.out (zab zag (by kernel_rfl)) rfl (zaa Try.func136) rfl fun wp hp => ?_
  replace hR0:=Lib.hid hR0
  replace hp:=Lib.hid hp
  go_wp2_with fail
  obtain rfl:=hR1.out
  clear hR1
  refine zbi (zbb W.out) 2 (by decide) (by decide) (zaj (by kernel_rfl)) W.out.tn.seats fun wp2 hp2 => ?_
  simp only [List.take_succ_cons,List.take_zero]
  have hOk:=W.out.tn.seats.okd
  replace hp2:=Lib.hid hp2
  go_wp2_with fail
  refine zaf hp2.out hOk ?_
  refine x_callV (zbb W.out) rfl rfl (by decide) rfl rfl Try.func173 (by kernel_rfl) (by kernel_rfl) ?_
  walk_nrm
  refine gm_step hloc W.out O.out hU hn hmo hok.out.le hok.out.deep (j:Int) fun own' A' w₁ ov' w' W' O' => ?_
  rw [Frame.finish_at]
  walk_nrm
  refine zad (zbb W') ?_
  obtain rfl:=hR0.out
  clear hR0
  refine zb7 (zbb W') ?_
  rw [show cB (cB (cB (bodyI c44)))=Code.region _ _ _ from rfl]
  refine zbl prgT W' (zab zag (by kernel_rfl)) rfl (zaa Try.func136) rfl fun wp hp => ?_
  have q1:IntKind.i64.wrap ((j:Int)+1)=((j+1:Nat):Int):=by rw [IntKind.wrap_i64];omega
  clear W O
  replace W':=Lib.hid W'
  replace O':=Lib.hid O'
  go_wp2_with fail
  rw [zdn _ rfl]
  refine zcu (zbb W'.out) ?_
  exact ih.out (j+1) (zcq n mo s j) _ _ _ _ _ _ (by omega) (hok.out.step _) hs.out ⟨rfl,rfl,rfl,rfl,rfl,rfl,rfl⟩ rfl rfl W'.out O'.out
set_option maxRecDepth 100000 in
theorem over_rounds (hloc:zc2 Rep) (hU:U.n=n) (hn:n≤64) (hmo:mo≤1048576) {sch:Value}
  {sf:GSt M} (hend:∀ x own A w₀ ov w,H44 sch w0.heap.size U.bx bl x→Wd Rep U n sf.m sf.co ov own A w₀ w→OvM w0 own0 n mo bl (zbe sf.co n) sf.ord own w→GM Rep Try.prog U Z n sf.co ov A w₀ (G ((base 136).at (A44 x) R) cs) w) :
  ∀ f (s:GSt M) x own A w₀ ov w,mo≤s.ord.length+f→OkG n mo s→zd0 n mo f s=sf→H44 sch w0.heap.size U.bx bl x→Wd Rep U n s.m s.co ov own A w₀ w→OvM w0 own0 n mo bl (zbe s.co n) s.ord own w →
   GM Rep Try.prog U Z n s.co ov A w₀ (G ((base 136).at (A44 x) (.code (bodyR c44) :: .inLoop (bodyR c44) :: .inBlock 6::R)) cs) w:=by
 intro f
 induction f using Nat.strongRecOn with
 | _ f ih =>
 intro s x own A w₀ ov w hf hok hs hx W O
 have ho:=hok.le
 replace hok:=Lib.hid hok
 refine za4 (zbb W) rfl fun R0 hR0 => ?_
 rw [show cA (bodyR c44)=Code.seq _ _ from rfl]
 refine zae (zbb W) fun R1 hR1 => ?_
 refine zbl prgT W (zab zag (by kernel_rfl)) rfl (zaa Try.func136) rfl fun wp hp => ?_
 obtain ⟨v,hv,hr,_⟩:=O.fo
 obtain ⟨vp,vc,rfl⟩:=own_sl hr
 replace hr:=Lib.hid hr
 have cl:=(zcd hp _).trans (zac O.fl 0)
 have cm:=(zcd hp _).trans (zac O.fm 0)
 have co_:=(zcd hp _).trans (zac hv 0)
 simp only [List.getElem?_toArray,List.getElem?_cons_zero] at cl cm co_
 replace hv:=Lib.hid hv
 replace hend:=Lib.hid hend
 replace W:=Lib.hid W
 replace O:=Lib.hid O
 replace ih:=Lib.hid ih
 replace hs:=Lib.hid hs
 replace hp:=Lib.hid hp
 unfold A44
 simp only [hx.x1,hx.x5,hx.x6,hx.x9,hx.x10,hx.x11,hx.x13]
 by_cases hl:0 < zbe s.co n
 ·
  have hl':(0:Int) < zbe s.co n:=by omega
  by_cases hm:s.ord.length < mo
  ·
   have hm':(s.ord.length:Int) < mo:=by omega
   obtain ⟨f,rfl⟩:∃ f',f=f'+1:=⟨f - 1,by omega⟩
   have hgr:s.ord.length < (foldO n mo s ((List.range' 0 n).map Int.ofNat)).ord.length:=by
    obtain ⟨j,h1,h2⟩:=leftO_pos n hl
    exact foldO_grows n 0 s (by omega) hok.out hm j (by omega) h1 h2
   have hfo:=hok.out.fold ((List.range' 0 n).map Int.ofNat)
   have hs':RowKit.Hid (zd0 n mo f (foldO n mo s ((List.range' 0 n).map Int.ofNat))=sf):=by
    have:=hs.out
    unfold zd0 at this
    rw [if_pos ⟨hl,hm⟩] at this
    exact this
   clear hs
   replace hgr:=Lib.hid hgr
   replace hfo:=Lib.hid hfo
   go_wp2_with fail
   obtain rfl:=hR1.out
   clear hR1
   refine zao (zbb W.out) (t:=true) rfl ?_
   refine zbq (zbb W.out) ?_
   obtain rfl:=hR0.out
   clear hR0
   rw [show cB (bodyR c44)=Code.block _ _ from rfl]
   refine zb4 (zbb W.out) ?_
   refine zae (zbb W.out) fun R0 hR0 => ?_
   clear cl cm co_
   refine zbl prgT W.out (zab zag (by kernel_rfl)) rfl (zaa Try.func136) rfl fun wp hp => ?_
   have cn:=(zcd hp _).trans (zac O.out.fn 0)
   simp only [List.getElem?_toArray,List.getElem?_cons_zero] at cn
   replace hp:=Lib.hid hp
   go_wp2_with fail
   obtain rfl:=hR0.out
   clear hR0
   refine zb4 (zbb W.out) ?_
   refine x_loop (zbb W.out) ?_
   rw [zdn _ rfl]
   refine over_inner (sch:=sch) (sf:=foldO n mo s ((List.range' 0 n).map Int.ofNat)) hloc hU hn hmo (fun x own A w₀ ov w hx W O => ?_) n 0 s _ _ _ _ _ _ (by omega) hok.out rfl ⟨rfl,rfl,rfl,rfl,rfl,rfl,rfl⟩ rfl rfl W.out O.out
   refine zb7 (zbb W) ?_
   refine zcu (zbb W) ?_
   exact ih.out f (by omega) _ _ _ _ _ _ _ (by have:=hgr.out;omega) hfo.out hs'.out hx W O
  ·
   have hm':¬ (s.ord.length:Int) < mo:=by omega
   have stay:zd0 n mo f s=s:=by
    cases f with
    | zero=>rfl
    | succ f=>unfold zd0;rw [if_neg (by omega)]
   go_wp2_with fail
   obtain rfl:=hR1.out
   clear hR1
   refine zao (zbb W.out) (t:=false) rfl ?_
   obtain rfl:=hR0.out
   clear hR0
   refine x_exit (zbb W.out) rfl ?_
   rw [zdn _ rfl]
   have e:s=sf:=by rw [← hs.out,stay]
   rw [e] at W O ⊢
   exact hend.out _ _ _ _ _ _ ⟨rfl,rfl,rfl,rfl,rfl,rfl,rfl⟩ W.out O.out
 ·
  have hl':¬ (0:Int) < zbe s.co n:=by omega
  have stay:zd0 n mo f s=s:=by
   cases f with
   | zero=>rfl
   | succ f=>unfold zd0;rw [if_neg (by omega)]
  go_wp2_with fail
  obtain rfl:=hR1.out
  clear hR1
  refine zao (zbb W.out) (t:=false) rfl ?_
  obtain rfl:=hR0.out
  clear hR0
  refine x_exit (zbb W.out) rfl ?_
  rw [zdn _ rfl]
  have e:s=sf:=by rw [← hs.out,stay]
  rw [e] at W O ⊢
  exact hend.out _ _ _ _ _ _ ⟨rfl,rfl,rfl,rfl,rfl,rfl,rfl⟩ W.out O.out
end
end Go.Proofs.Ytofacoojpgkbiaa
/-
 OVER: whoever is left is ended. No condition of its own.
-/
namespace Go.Proofs.Ytofacoojpgkbiaa
open Go.Conc Go.RowKit
open Go.ConcN (upd upd_ne upd_same sumTo)
set_option maxRecDepth 100000
def bodyK:Code→Code:=fun c=>cA (cA (cB (cA (nB 11 c))))
structure K44 (N bx:Nat) (stuck:Bool) (x:Nat→Value):Prop where
 x6:x 6 = .pointer (some ⟨N+1,0,none⟩)
 x7:x 7 = .bool stuck
 x10:x 10 = .pointer (some ⟨bx,0,none⟩)
section
variable {M:Type} [Priv M] {Rep:M→(Nat→Owner)→World→Prop} {U:Tun} {n:Nat} {own own0:Nat→Owner} {A:Nat→Nat→Prop} {w₀:Nat→W0 M} {w w0:World} {ov:Nat→Bool} {Z:Machine→Trace→Prop} {cs:List Frame} {bl mo:Nat} {R:List Item}
set_option maxRecDepth 100000 in
theorem over_kill (hloc:zc2 Rep) (hU:U.n=n) (hn:n≤64) {m:M} {ord:List Int} {left:Int} {stuck:Bool} {sp:Option Addr}
  (hend:∀ co x own A w₀ ov w,K44 w0.heap.size U.bx stuck x→(∀ i,i < n→ov i=true)→Wd Rep U n m co ov own A w₀ w→OvM w0 own0 n mo bl left ord own w→GM Rep Try.prog U Z n co ov A w₀ (G ((base 136).at (A44 x) R) cs) w) :
  ∀ r j co x own A w₀ ov w,j+r=n→K44 w0.heap.size U.bx stuck x→x 107 = .slice U.sp n U.cap→x 108 = .int .i64 n→x 109 = .int .i64 j→(∀ i,i < j→ov i=true)→Wd Rep U n m co ov own A w₀ w→OvM w0 own0 n mo bl left ord own w →
   GM Rep Try.prog U Z n co ov A w₀ (G ((base 136).at (A44 x) (.code (bodyK c44) :: .inLoop (bodyK c44) :: .inBlock 10::R)) cs) w:=by
 intro r
 induction r with
 | zero =>
  intro j co x own A w₀ ov w hj hx h107 h108 h109 hov W O
  obtain rfl:j=n:=by omega
  refine za4 (zbb W) rfl fun R0 hR0 => ?_
  rw [show cA (bodyK c44)=Code.region _ _ _ from rfl]
  refine zbl prgT W (zab zag (by kernel_rfl)) rfl (zaa Try.func136) rfl fun wp hp => ?_
  replace hend:=Lib.hid hend
  replace W:=Lib.hid W
  replace O:=Lib.hid O
  replace hov:=Lib.hid hov
  unfold A44
  simp only [hx.x6,hx.x7,hx.x10,h107,h108,h109]
  go_wp2_with fail
  obtain rfl:=hR0.out
  clear hR0
  refine za4 (zbb W.out) rfl fun R0 hR0 => ?_
  rw [show cA (cB (bodyK c44))=Code.cond _ _ _ from rfl]
  refine zao (zbb W.out) (t:=false) rfl ?_
  obtain rfl:=hR0.out
  clear hR0
  refine x_exit (zbb W.out) rfl ?_
  rw [zdn _ rfl]
  exact hend.out _ _ _ _ _ _ _ ⟨rfl,rfl,rfl⟩ hov.out W.out O.out
 | succ r ih =>
  intro j co x own A w₀ ov w hj hx h107 h108 h109 hov W O
  have hjn:j < n:=by omega
  replace ih:=Lib.hid ih
  refine za4 (zbb W) rfl fun R0 hR0 => ?_
  rw [show cA (bodyK c44)=Code.region _ _ _ from rfl]
  refine zbl prgT W (zab zag (by kernel_rfl)) rfl (zaa Try.func136) rfl fun wp hp => ?_
  obtain ⟨esp,cs1⟩:=W.rsp hp (i:=j) (by omega)
  clear cs1
  rw [esp] at h107
  replace esp:=Lib.hid esp
  replace hend:=Lib.hid hend
  replace W:=Lib.hid W
  replace O:=Lib.hid O
  replace hov:=Lib.hid hov
  replace hp:=Lib.hid hp
  have hlt:(j:Int) < n:=by omega
  unfold A44
  simp only [hx.x6,hx.x7,hx.x10,h107,h108,h109]
  go_wp2_with fail
  obtain rfl:=hR0.out
  clear hR0
  refine za4 (zbb W.out) rfl fun R0 hR0 => ?_
  rw [show cA (cB (bodyK c44))=Code.cond _ _ _ from rfl]
  refine zao (zbb W.out) (t:=true) rfl ?_
  refine zbq (zbb W.out) ?_
  obtain rfl:=hR0.out
  clear hR0
  refine za4 (zbb W.out) rfl fun R0 hR0 => ?_
  rw [show cA (cB (cB (bodyK c44)))=Code.block _ _ from rfl]
  refine zb4 (zbb W.out) ?_
  refine zae (zbb W.out) fun R1 hR1 => ?_
  refine zbl prgT W.out (zab zag (by kernel_rfl)) rfl (zaa Try.func136) rfl fun wp hp => ?_
  obtain ⟨_,cs1⟩:=W.out.rsp hp (i:=j) (by omega)
  have q0:(0:Int)≤j:=by omega
  replace hR0:=Lib.hid hR0
  replace hp:=Lib.hid hp
  go_wp2_with fail
  obtain rfl:=hR1.out
  clear hR1
  refine zae (zbb W.out) fun R1 hR1 => ?_
  refine zbl prgT W.out (zab zag (by kernel_rfl)) rfl (zaa Try.func136) rfl fun wp hp => ?_
  obtain ⟨_,_,cs2⟩:=W.out.rst hp (i:=j) (by omega)
  replace hp:=Lib.hid hp
  cases hb:ov j with
  | true =>
   rw [hb] at cs2
   replace hb:=Lib.hid hb
   go_wp2_with fail
   obtain rfl:=hR1.out
   clear hR1
   refine zao (zbb W.out) (t:=false) rfl ?_
   refine zbq (zbb W.out) ?_
   have W2:=W.out
   have O2:=O.out
   have hov2:∀ i,i < j+1→ov i=true:=fun i hi=>by
    by_cases e:i=j
    ·
     rw [e];exact hb.out
    ·
     exact hov.out i (by omega)
   clear W O hov
   obtain rfl:=hR0.out
   clear hR0
   refine zb7 (zbb W2) ?_
   rw [show cB (cB (cB (bodyK c44)))=Code.region _ _ _ from rfl]
   refine zbl prgT W2 (zab zag (by kernel_rfl)) rfl (zaa Try.func136) rfl fun wp hp => ?_
   have q1:IntKind.i64.wrap ((j:Int)+1)=((j+1:Nat):Int):=by rw [IntKind.wrap_i64];omega
   replace W2:=Lib.hid W2
   replace O2:=Lib.hid O2
   replace hov2:=Lib.hid hov2
   replace hp:=Lib.hid hp
   go_wp2_with fail
   rw [zdn _ rfl]
   refine zcu (zbb W2.out) ?_
   exact ih.out (j+1) _ _ _ _ _ _ _ (by omega) ⟨rfl,rfl,rfl⟩ (by rw [esp.out];rfl) rfl rfl hov2.out W2.out O2.out
  | false =>
   rw [hb] at cs2
   replace hb:=Lib.hid hb
   go_wp2_with fail
   obtain rfl:=hR1.out
   clear hR1
   refine zao (zbb W.out) (t:=true) rfl ?_
   refine zbi (zbb W.out) 2 (by decide) (by decide) (zaj (by kernel_rfl)) W.out.tn.seats fun wp2 hp2 => ?_
   simp only [List.take_succ_cons,List.take_zero]
   have hOk:=W.out.tn.seats.okd
   have cb:=W.out.rbx hp2
   replace hp2:=Lib.hid hp2
   go_wp2_with fail
   refine zaf hp2.out hOk ?_
   refine zaz (zbb W.out) rfl rfl (by decide) rfl Try.func174 (by kernel_rfl) (by kernel_rfl) ?_
   walk_nrm
   refine gm_letcall hloc W.out hjn hb.out hn (m':=m) (c' := .fin) (.inl ⟨rfl,rfl,rfl⟩) fun own' A' w₁ ov' w' W2 hle hout => ?_
   have O2:=O.out.keep hle hout
   have hov2:∀ i,i < j+1→ov' i=true:=fun i hi=>by
    have h1:=W2.co i (by omega)
    by_cases e:i=j
    ·
     rw [e,upd_same] at h1
     rw [e];exact h1.symm
    ·
     rw [upd_ne _ _ e,W.out.co i (by omega),hov.out i (by omega)] at h1
     exact h1.symm
   clear W O hov hle hout
   rw [Frame.finish_at]
   walk_nrm
   refine zad (zbb W2) ?_
   obtain rfl:=hR0.out
   clear hR0
   refine zb7 (zbb W2) ?_
   rw [show cB (cB (cB (bodyK c44)))=Code.region _ _ _ from rfl]
   refine zbl prgT W2 (zab zag (by kernel_rfl)) rfl (zaa Try.func136) rfl fun wp hp => ?_
   have q1:IntKind.i64.wrap ((j:Int)+1)=((j+1:Nat):Int):=by rw [IntKind.wrap_i64];omega
   replace W2:=Lib.hid W2
   replace O2:=Lib.hid O2
   replace hov2:=Lib.hid hov2
   replace hp:=Lib.hid hp
   go_wp2_with fail
   rw [zdn _ rfl]
   refine zcu (zbb W2.out) ?_
   exact ih.out (j+1) _ _ _ _ _ _ _ (by omega) ⟨rfl,rfl,rfl⟩ (by rw [esp.out];rfl) rfl rfl hov2.out W2.out O2.out
end
end Go.Proofs.Ytofacoojpgkbiaa
/-
 ████ OVER ████: a call of Over,beside goroutines that only leave: the threads run by the schedule. No condition of its own.
-/
namespace Go.Proofs.Ytofacoojpgkbiaa
open Go.Conc Go.RowKit
open Go.ConcN (upd upd_ne upd_same sumTo)
set_option maxRecDepth 100000
def mkU (oo:Os×Array (Nat×ByteArray)) (n bx tu br bk:Nat) (st ps:Nat→Nat) (v:Value) (g0:Nat):Tun :=
 { n:=n,g0:=g0,bx:=bx,tu:=tu,sl:=v.ownBlock.getD br,br:=br,back:=bk,cap:=match v with | .slice _ _ c=>c | _=>0,sp:=match v with | .slice p _ _=>p | _=>none,bp:=some ⟨br,0,none⟩,st:=st,pass:=ps,outs:=oo }
section
variable {oo:Os×Array (Nat×ByteArray)} {w0 w:World} {n bx tu br bk:Nat} {M:Int} {st ps:Nat→Nat} {v:Value}
theorem Stands.tn (h:Stands w0 n M bx tu br bk n st ps v w) (g0:Nat):Tn (mkU oo n bx tu br bk st ps v g0) (fun _=>false) (fun _=>false) w:=by
 obtain ⟨ao,c,rfl⟩:=own_sl h.row
 refine ⟨h.fbx,h.ftu,?_,⟨_,h.fbr,size_madeCells _ _,fun i hi => ?_⟩,fun i hi=>h.sts i hi,⟨0,h.fbk⟩,fun i hi=>⟨0,h.psc i hi⟩⟩
 ·
  rcases h.row.2 with ⟨e,h0⟩ | ⟨g,cap,cur,e,_,hg,hc,hm,hs,htk⟩
  ·
   have h0':n=0:=h0
   injection e with e1 e2 e3
   subst e1
   exact ⟨_,_,h.fbr,fun i hi=>by have hi':i < n:=hi;omega⟩
  ·
   injection e with e1 e2 e3
   subst e1
   refine ⟨cur,303,hg,fun i hi => ?_⟩
   have hi':i < n:=hi
   show cur[i]?=some (.pointer (some ⟨st i,0,none⟩))
   have:=congrArg (·[i]?) htk
   simp only [Nat.mul_one,List.getElem?_take_of_lt hi',List.getElem?_map,List.getElem?_range hi',Option.map_some] at this
   simpa using this
 ·
  have hi':i < n:=hi
  have:(madeCells #[Value.bool false] n).toList[i]?=some (.bool false):=by
   rw [toList_madeCells_one]
   simp [hi']
  simpa using this
theorem Stands.more {k:Nat} {w1:World} (h:Stands w0 n M bx tu br bk k st ps v w) (hs:w.heap.size≤w1.heap.size) (hb:∀ b,b < w.heap.size→w1.heap[b]?=w.heap[b]?) (eo:w1.os=w.os∧w1.output=w.output):Stands w0 n M bx tu br bk k st ps v w1:=by
 have lt:∀ {b:Nat} {o:Obj},w.heap[b]?=some o→w1.heap[b]?=some o:=fun e=>(hb _ (Array.getElem?_eq_some_iff.1 e).1).trans e
 have hsz:=h.sz
 refine ⟨lt h.fm,lt h.fo,lt h.fn,lt h.fbx,lt h.ftu,lt h.fbr,lt h.fbk,h.ge,fun b hlt=>(hb b (by omega)).trans (h.low b hlt),?_,fun i hi=>lt (h.sts i hi),fun i hi=>lt (h.psc i hi),h.injS,h.injP,h.pb,h.ges,by omega,eo.1.trans h.outs.1,eo.2.trans h.outs.2⟩
 obtain ⟨x,y⟩:=h.row
 refine ⟨x,?_⟩
 rcases y with e | ⟨g,cap,cur,e,q1,q2,q3⟩
 ·
  exact .inl e
 ·
  exact .inr ⟨g,cap,cur,e,q1,lt q2,q3⟩
theorem Stands.wf (h:Stands w0 n M bx tu br bk n st ps v w) (g0:Nat) (hg:0 < g0):(mkU oo n bx tu br bk st ps v g0).Wf:=by
 refine ⟨hg,fun hn => ?_,fun hn=>rfl,h.injS,h.injP,h.pb⟩
 have hn':0 < n:=hn
 rcases h.row.2 with ⟨_,h0⟩ | ⟨g,cap,cur,rfl,_⟩
 ·
  omega
 ·
  rfl
theorem Stands.blk (h:Stands w0 n M bx tu br bk n st ps v w) (g0:Nat) {b:Nat} (hb:(mkU oo n bx tu br bk st ps v g0).blk b):w0.heap.size+3≤b∧b < w.heap.size:=by
 refine ⟨?_,(h.tn g0).lt hb⟩
 have hge:=h.ge
 rcases hb with e | e | e | e | e | ⟨i,hi,e | e⟩
 ·
  rw [e];exact hge.1
 ·
  rw [e];exact hge.2.1
 ·
  rw [e]
  show w0.heap.size+3≤v.ownBlock.getD br
  cases ho:v.ownBlock with
  | none=>exact hge.2.2.1
  | some g=>exact (h.row.lt g ho).1
 ·
  rw [e];exact hge.2.2.1
 ·
  rw [e];exact hge.2.2.2
 ·
  rw [e];exact (h.ges i hi).1
 ·
  rw [e];exact (h.ges i hi).2
end
open Classical in
noncomputable def ownT (U:Tun) (own0:Nat→Owner):Nat→Owner:=fun b=>if U.blk b then .tun else own0 b
section
variable {oo:Os×Array (Nat×ByteArray)} {M:Type} [Priv M] {Rep:M→(Nat→Owner)→World→Prop} {w0 w w1:World} {n bx tu br bk bl:Nat} {Mo:Int} {st ps:Nat→Nat} {v:Value} {own0:Nat→Owner} {m:M}
theorem Stands.wd (hloc:zc2 Rep) (h:Stands w0 n Mo bx tu br bk n st ps v w) (g0:Nat) (hg:0 < g0) (hR:Rep m own0 w0) (hf:∀ b,w0.heap.size≤b→own0 b = .out) :
  Wd Rep (mkU oo n bx tu br bk st ps v g0) 0 m (fun _ => .fin) (fun _=>false) (ownT (mkU oo n bx tu br bk st ps v g0) own0) (fun _ _=>False) (fun _=>⟨#[],m,fun _ => .out⟩) w:=by
 refine ⟨h.wf g0 hg,Nat.zero_le _,h.tn g0,fun b hb=>by unfold ownT;rw [if_pos hb],hloc _ _ _ _ _ hR ⟨fun b hb => ?_,fun b v hb => ?_⟩,fun b hb => ?_,fun i hi=>by omega,fun _ _=>rfl,fun i hi=>by omega,fun _ _=>rfl,fun i hi b v hv=>(by cases hv),fun i hi=>by omega⟩
 ·
  have hlt:b < w0.heap.size:=by
   rcases Nat.lt_or_ge b w0.heap.size with z | z
   ·
    exact z
   ·
    exact absurd (hf b z) hb.out
  refine ⟨?_,h.low b hlt⟩
  unfold ownT
  rw [if_neg (fun z=>by have:=(h.blk g0 z).1;omega)]
 ·
  unfold ownT at hb
  split at hb
  ·
   cases hb
  ·
   exact hb
 ·
  unfold ownT
  rw [if_neg (fun z=>by have:=(h.blk g0 z).2;omega)]
  exact hf b (by have:=h.sz;omega)
theorem Stands.ovm (h:Stands w0 n Mo bx tu br bk n st ps v w) (g0:Nat) (hf:∀ b,w0.heap.size≤b→own0 b = .out) (hb:∀ b,b < w.heap.size→w1.heap[b]?=w.heap[b]?) (hs:w.heap.size≤w1.heap.size) (hbl:w.heap.size≤bl) (hl:w1.heap[bl]?=some (.cells #[.int .i64 0] 3 (0,0))) :
  OvM w0 own0 n Mo bl 0 [] (ownT (mkU oo n bx tu br bk st ps v g0) own0) w1:=by
 have lt:∀ {b:Nat} {o:Obj},w.heap[b]?=some o→b < w.heap.size:=fun e=>(Array.getElem?_eq_some_iff.1 e).1
 have out:∀ b,(b < w0.heap.size+3∨w.heap.size≤b)→ownT (mkU oo n bx tu br bk st ps v g0) own0 b=own0 b:=fun b hh=>by
  unfold ownT
  rw [if_neg (fun z=>by have:=h.blk g0 z;omega)]
 have hsz:=h.sz
 refine ⟨(hb _ (lt h.fm)).trans h.fm,(hb _ (lt h.fn)).trans h.fn,hl,⟨_,(hb _ (lt h.fo)).trans h.fo,World.ownsRow_nil _ _ _ _,fun g hg=>by simp [Value.ownBlock] at hg⟩,by omega,⟨?_,?_,?_,?_⟩,fun b hlt ho=>⟨?_,(hb b (by omega)).trans (h.low b hlt)⟩,by omega⟩
 ·
  rw [out _ (by omega)];exact hf _ (by omega)
 ·
  rw [out _ (by omega)];exact hf _ (by omega)
 ·
  rw [out _ (by omega)];exact hf _ (by omega)
 ·
  rw [out _ (by omega)];exact hf _ (by omega)
 ·
  rw [out _ (by omega)];exact ho
end
theorem results_ctt {fn:Func} {p u v:Tmp} {ty:TypeId} (h:fn.results=#[.cell p ty,.tmp u,.tmp v]) (tmps:Array Value) (P:Program) (w:World) (y:Value) (x:Addr) (hp:tmps.getD p undef = .pointer (some x)) (hl:(loadVar ty x).run P w = .ok y w) :
  (results fn tmps).run P w = .ok (.tuple #[y,tmps.getD u undef,tmps.getD v undef]) w:=by
 simp only [results,h]
 have hp':tmps[p]?.getD undef = .pointer (some x):=by simpa using hp
 simp [Result.andThen,hp',asAddr,hl]
theorem startO_deep {M:Type} {n mo:Nat} {φ:Nat→Fu M} {m0:M} (h:∀ i,i < n→∀ m,Deep mo (φ i m).2):∀ k,k≤n→∀ j,Deep mo ((za5 φ m0 k).2 j)
 | 0,_,j=>by
  show Deep mo Co.fin
  cases mo<;>trivial
 | k+1,hk,j=>by
  show Deep mo (Go.ConcN.upd (za5 φ m0 k).2 k (φ k (za5 φ m0 k).1).2 j)
  by_cases e:j=k
  ·
   subst e
   rw [upd_same]
   exact h _ (by omega) _
  ·
   rw [upd_ne _ _ e]
   exact startO_deep h k (by omega) j
theorem startO_ok {M:Type} {n mo:Nat} {φ:Nat→Fu M} {m0:M} (h:∀ i,i < n→∀ m,Deep mo (φ i m).2):OkG n mo ⟨(za5 φ m0 n).1,(za5 φ m0 n).2,[]⟩ :=
 ⟨Nat.zero_le _,fun j _=>startO_deep h n (Nat.le_refl _) j⟩
def playO {M:Type} (n mo:Nat) (φ:Nat→Fu M) (m0:M) (sched:List Int):GSt M :=
 zd0 n mo mo (foldO n mo ⟨(za5 φ m0 n).1,(za5 φ m0 n).2,[]⟩ sched)
section
variable {M:Type} [Priv M] {Rep:M→(Nat→Owner)→World→Prop} {Z:Machine→Trace→Prop}
set_option maxRecDepth 100000 in
theorem over_runs (hloc:zc2 Rep) {c:Frame} {cs:List Frame} {w:World} {ta sa:Option Addr} {nT cT nS cS n mo:Nat} {most:Int} (hn:min (nT:Int) 64=n) (hM:min (max most 0) 1048576=mo) (hmost:most < 9223372036854775808)
  {own0:Nat→Owner} {m0:M} (hR:Rep m0 own0 w) (hf:∀ b,w.heap.size≤b→own0 b = .out)
  {tb to:Nat} {F:Nat→Value} (hta:0 < n→ta=some ⟨tb,to,none⟩) (hF:∀ i,i < n→w.cell? ⟨tb,to+i,none⟩=some (F i)) (htb:0 < n→tb < w.heap.size∧own0 tb = .out)
  {sb so:Nat} {sd:Nat→Int} (hsa:0 < nS→sa=some ⟨sb,so,none⟩) (hsd:∀ j,j < nS→w.cell? ⟨sb,so+j,none⟩=some (.int .i64 (sd j))) (hsb:0 < nS→sb < w.heap.size∧(own0 sb = .out∨∀ m own w',Rep m own w'→w'.heap[sb]?=w.heap[sb]?)) (hnS:nS≤1048576)
  {φ:Nat→Fu M} (hdeep:∀ i,i < n→∀ m,Deep mo (φ i m).2) (hφ:∀ U:Tun,U.n=n→∀ i,i < n→zb8 i (φ i)∧∀ h o,GOF Rep Try.prog U i (φ i) (fun _=>False) ⟨h,m0,o⟩ (born Try.prog (call58 U.tu i (F i))))
  (h:∀ own' w' vo bp,Rep (playO n mo φ m0 ((List.range' 0 nS).map sd)).m own' w'→(∀ b,b < w.heap.size→own0 b = .out→own' b = .out∧w'.heap[b]?=w.heap[b]?)→w.heap.size≤w'.heap.size→(w'.os=w.os∧w'.output=w.output)→(∀ b,w'.heap.size≤b→own' b = .out) →
   w'.ownsRow w.heap.size 3 1 vo (playO n mo φ m0 ((List.range' 0 nS).map sd)).ord.length ((playO n mo φ m0 ((List.range' 0 nS).map sd)).ord.map (Value.int .i64)) →
   RM Try.prog Z (G (c.finish (.tuple #[vo,.bool (decide (0 < zbe (playO n mo φ m0 ((List.range' 0 nS).map sd)).co n)),.slice bp n n])) cs) w') :
  RM Try.prog Z (G (Frame.enter Try.prog 136 #[.slice ta nT cT,.slice sa nS cS,.int .i64 most] .normal) (c::cs)) w:=by
 have hn64:n≤64:=by omega
 have hmo:mo≤1048576:=by omega
 refine over_r3 hn hM hmost fun x bx tu br bk w1 _ _ _ hx hB => ?_
 refine over_stands hn64 hx hB fun x st ps v w2 hx S => ?_
 clear hB
 refine za4 rm_xc rfl fun R0 hR0 => ?_
 rw [show cA (cB (cB (cB (cB (cB c44)))))=Code.region _ _ _ from rfl]
 refine zcj prg0 (zab zag (by kernel_rfl)) rfl (zaa Try.func136) rfl fun wp hp => ?_
 replace h:=Lib.hid h
 replace S:=Lib.hid S
 replace hR:=Lib.hid hR
 unfold A44
 simp only [hx.x0,hx.x1,hx.x5,hx.x6,hx.x9,hx.x10]
 replace hp:=Lib.hid hp
 go_wp2_with fail
 refine fun w3 h3 => ?_
 have s0:wp.heap.size=w2.heap.size:=by rw [hp.out.heap]
 have hlt3:∀ b,b < w2.heap.size→w3.heap[b]?=w2.heap[b]?:=fun b hb=>by
  rw [h3.heap,Below.heap_alloc _ _ _ (by omega),hp.out.heap]
 have hl3:w3.heap[w2.heap.size]?=some (.cells #[.int .i64 0] 3 (0,0)):=by
  rw [h3.heap,← s0]
  exact heap_alloc_new _ _
 have hs3:w2.heap.size≤w3.heap.size:=by
  have:w3.heap.size=wp.heap.size+1:=by rw [h3.heap];simp
  omega
 rw [s0]
 obtain rfl:=hR0.out
 have u3:w3.os=w2.os∧w3.output=w2.output:=⟨h3.outs.1.trans hp.out.outs.1,h3.outs.2.trans hp.out.outs.2⟩
 clear hR0 s0 h3 hp wp
 refine za4 rm_xc rfl fun R0 hR0 => ?_
 rw [show cA (cB (cB (cB (cB (cB (cB c44))))))=Code.seq _ _ from rfl]
 refine zae rm_xc fun R1 hR1 => ?_
 refine zcj prg0 (zab zag (by kernel_rfl)) rfl (zaa Try.func136) rfl fun wp hp => ?_
 have cn:wp.cell? ⟨w.heap.size+2,0,none⟩=some (.int .i64 n):=zac (by rw [hp.heap];exact (S.out.more hs3 hlt3 u3).fn) 0
 replace hp:=Lib.hid hp
 go_wp2_with fail
 refine fun w4 h4 => ?_
 have e4:w4.heap=w3.heap:=by rw [h4.heap,hp.out.heap]
 have S4:=(S.out.more hs3 hlt3 u3).heap e4 ⟨h4.outs.1.trans hp.out.outs.1,h4.outs.2.trans hp.out.outs.2⟩
 have O4:∀ g0,OvM w own0 n mo w2.heap.size 0 [] (ownT (mkU (w.os,w.output) n bx tu br bk st ps v g0) own0) w4:=fun g0=>S.out.ovm g0 hf (fun b hb=>by rw [e4];exact hlt3 b hb) (by rw [e4];exact hs3) (Nat.le_refl _) (by rw [e4];exact hl3)
 generalize hbl:w2.heap.size=bl at *
 clear h4 hp cn hl3 hs3 hlt3 S hbl e4 u3
 obtain rfl:=hR1.out
 clear hR1
 refine rm_open (Rep:=Rep) (U:=mkU (w.os,w.output) n bx tu br bk st ps v) (A:=fun _ _=>False) (w₀:=fun _=>⟨#[],m0,fun _ => .out⟩) (co:=fun _ => .fin) (fun _=>rfl) (fun g0=>S4.tn g0) (fun _=>S4.outs) fun g0 hg0 => ?_
 have W4:=S4.wd (oo:=(w.os,w.output)) hloc g0 hg0 hR.out hf
 replace O4:=O4 g0
 have hUo:(mkU (w.os,w.output) n bx tu br bk st ps v g0).outs=(w.os,w.output):=rfl
 have hbx:(mkU (w.os,w.output) n bx tu br bk st ps v g0).bx=bx:=rfl
 have hUn:(mkU (w.os,w.output) n bx tu br bk st ps v g0).n=n:=rfl
 clear S4
 generalize mkU (w.os,w.output) n bx tu br bk st ps v g0=U at *
 subst hbx
 refine zb4 (zbb W4) ?_
 refine x_loop (zbb W4) ?_
 rw [zdn _ rfl]
 refine over_start (R:=R0) (thr := .slice ta nT cT) (sch := .slice sa nS cS) hloc hn64 (tb:=tb) (to:=to) (cT:=cT) (F:=F) (fun h0=>⟨nT,by rw [hta h0],by omega⟩) hF htb (hφ U hUn) hUn (fun x own A w₀ ov w' hx W O => ?_) n 0 _ _ _ _ _ _ (by omega) (fun _ _=>rfl) ⟨⟨rfl,rfl,rfl,rfl,rfl,rfl⟩,rfl⟩ rfl rfl W4 O4
 clear W4 O4
 obtain rfl:=hR0.out
 clear hR0
 have S0:((za5 φ m0 n).1,(za5 φ m0 n).2)=za5 φ m0 n:=rfl
 refine za4 (zbb W) rfl fun R0 hR0 => ?_
 rw [show cA (cB (cB (cB (cB (cB (cB (cB c44)))))))=Code.region _ _ _ from rfl]
 refine zbl prgT W (zab zag (by kernel_rfl)) rfl (zaa Try.func136) rfl fun wp hp => ?_
 replace W:=Lib.hid W
 replace O:=Lib.hid O
 replace hp:=Lib.hid hp
 unfold A44
 simp only [hx.x0,hx.x1,hx.x5,hx.x6,hx.x9,hx.x10,hx.x11]
 go_wp2_with fail
 obtain rfl:=hR0.out
 clear hR0
 refine za4 (zbb W.out) rfl fun R0 hR0 => ?_
 rw [show cA (cB (cB (cB (cB (cB (cB (cB (cB c44))))))))=Code.seq _ _ from rfl]
 refine zae (zbb W.out) fun R1 hR1 => ?_
 refine zbl prgT W.out (zab zag (by kernel_rfl)) rfl (zaa Try.func136) rfl fun wp hp => ?_
 replace hp:=Lib.hid hp
 go_wp2_with fail
 obtain rfl:=hR1.out
 clear hR1
 refine zb4 (zbb W.out) ?_
 refine x_loop (zbb W.out) ?_
 rw [zdn _ rfl]
 refine over_sched (R:=R0) (sch := .slice sa nS cS) hloc hUn hn64 hmo (sb:=sb) (so:=so) (cS:=cS) (sd:=sd) hsd hsb hnS (fun h0=>by rw [hsa h0]) (sf:=foldO n mo ⟨(za5 φ m0 n).1,(za5 φ m0 n).2,[]⟩ ((List.range' 0 nS).map sd)) (fun x own A w₀ ov w' hx W O => ?_) nS 0 ⟨(za5 φ m0 n).1,(za5 φ m0 n).2,[]⟩ _ _ _ _ _ _ (by omega) (startO_ok hdeep) rfl ⟨rfl,rfl,rfl,rfl,rfl,rfl,rfl⟩ rfl rfl rfl W.out O.out
 have hle:=(foldO_ord (n:=n) (mo:=mo) ((List.range' 0 nS).map sd) ⟨(za5 φ m0 n).1,(za5 φ m0 n).2,[]⟩ (Nat.zero_le _)).2
 have hok:=(startO_ok (n:=n) (mo:=mo) (φ:=φ) (m0:=m0) hdeep).fold ((List.range' 0 nS).map sd)
 obtain rfl:=hR0.out
 clear hR0
 refine za4 (zbb W) rfl fun R0 hR0 => ?_
 rw [show cA (cB (cB (cB (cB (cB (cB (cB (cB (cB c44)))))))))=Code.block _ _ from rfl]
 refine zb4 (zbb W) ?_
 refine x_loop (zbb W) ?_
 refine over_rounds (R:=R0) (sch := .slice sa nS cS) hloc hUn hn64 hmo (sf:=playO n mo φ m0 ((List.range' 0 nS).map sd)) (fun x own A w₀ ov w' hx W O => ?_) mo _ _ _ _ _ _ _ (Nat.le_add_left _ _) hok rfl hx W O
 obtain rfl:=hR0.out
 clear hR0 hle hok
 generalize playO n mo φ m0 ((List.range' 0 nS).map sd)=sf at *
 refine za4 (zbb W) rfl fun R0 hR0 => ?_
 rw [show cA (cB (cB (cB (cB (cB (cB (cB (cB (cB (cB c44))))))))))=Code.region _ _ _ from rfl]
 refine zbl prgT W (zab zag (by kernel_rfl)) rfl (zaa Try.func136) rfl fun wp hp => ?_
 have cl:=(zcd hp _).trans (zac O.fl 0)
 simp only [List.getElem?_toArray,List.getElem?_cons_zero] at cl
 replace W:=Lib.hid W
 replace O:=Lib.hid O
 replace hp:=Lib.hid hp
 unfold A44
 simp only [hx.x1,hx.x5,hx.x6,hx.x9,hx.x10,hx.x11,hx.x13]
 go_wp2_with fail
 obtain rfl:=hR0.out
 clear hR0 cl hp wp
 refine za4 (zbb W.out) rfl fun R0 hR0 => ?_
 rw [show cA (cB (cB (cB (cB (cB (cB (cB (cB (cB (cB (cB c44)))))))))))=Code.seq _ _ from rfl]
 refine zae (zbb W.out) fun R1 hR1 => ?_
 refine zbl prgT W.out (zab zag (by kernel_rfl)) rfl (zaa Try.func136) rfl fun wp hp => ?_
 have cb:=W.out.rbx hp
 have cu:=(W.out.rtu hp).2.1
 rw [hUn] at cu
 replace hp:=Lib.hid hp
 go_wp2_with fail
 obtain rfl:=hR1.out
 clear hR1
 refine zb4 (zbb W.out) ?_
 refine x_loop (zbb W.out) ?_
 rw [zdn _ rfl]
 refine over_kill (R:=R0) (stuck:=decide (0 < zbe sf.co n)) (sp:=U.sp) hloc hUn hn64 (fun co x own A w₀ ov w' hx hov W O => ?_) n 0 _ _ _ _ _ _ _ (by omega) ⟨rfl,rfl,rfl⟩ rfl rfl rfl (fun i hi=>by omega) W.out O.out
 obtain rfl:=hR0.out
 clear hR0 cb cu hp wp
 refine gm_close hov fun hout => ?_
 rw [hUo] at hout
 obtain ⟨vo,hvo,hrow,hvw⟩:=O.fo
 obtain ⟨vp,vc,rfl⟩:=own_sl hrow
 have c1:=zac W.tn.bx 0
 have c2:=zac W.tn.tu 2
 have c3:=zac hvo 0
 have c4:=zau hvo 0
 rw [hUn] at c2
 simp only [List.getElem?_toArray,List.getElem?_cons_zero,List.getElem?_cons_succ] at c1 c2 c3
 have hlow:=O.low
 have hsz:=O.sz
 have hrep:=W.rep
 have hfr:=Lib.hid W.fresh
 have n1:U.bx≠w.heap.size+1:=fun e=>by have h1:=W.tun _ (.inl rfl);rw [e,O.om.2.1] at h1;cases h1
 have n2:U.tu≠w.heap.size+1:=fun e=>by have h1:=W.tun _ (.inr (.inl rfl));rw [e,O.om.2.1] at h1;cases h1
 clear W O
 refine za4 rm_xc rfl fun R0 hR0 => ?_
 rw [show cA (cB (cB (cB (cB (cB (cB (cB (cB (cB (cB (cB (cB c44))))))))))))=Code.region _ _ _ from rfl]
 refine zcj prg0 (zab zag (by kernel_rfl)) rfl (zaa Try.func136) rfl fun wp hp => ?_
 have same:∀ a,wp.cell? a=w'.cell? a:=fun a=>by unfold World.cell?;rw [hp.heap]
 have d1:=(same _).trans c1
 have d2:=(same _).trans c2
 have d3:=(same _).trans c3
 have d4:wp.frozen? ⟨w.heap.size+1,0,none⟩=false:=by unfold World.frozen? at c4 ⊢;rw [hp.heap];exact c4
 clear same c1 c2 c3 c4
 unfold A44
 simp only [hx.x6,hx.x7,hx.x10]
 replace hp:=Lib.hid hp
 replace hrow:=Lib.hid hrow
 replace hlow:=Lib.hid hlow
 replace hrep:=Lib.hid hrep
 replace hvo:=Lib.hid hvo
 replace hvw:=Lib.hid hvw
 go_region
 refine And.intro rfl ?_
 intro w5 h5
 obtain rfl:=hR0.out
 clear hR0
 have hh:∀ b:Nat,w5.heap[b]?=w'.heap[b]?:=fun b=>by
  rw [h5.heap]
  show (wp.setCell ⟨w.heap.size+1,0,none⟩ (Value.slice vp sf.ord.length vc)).heap[b]?=_
  by_cases e:b=w.heap.size+1
  ·
   subst e
   rw [za1 (by rw [hp.out.heap];exact hvo.out) 0,hvo.out]
   rfl
  ·
   rw [Below.heap_setCell _ _ _ _ e,hp.out.heap]
 have u5:w5.os=w.os∧w5.output=w.output:=⟨(h5.outs.1.trans hp.out.outs.1).trans hout.1,(h5.outs.2.trans hp.out.outs.2).trans hout.2⟩
 have hs5:w5.heap.size=w'.heap.size:=by
  rw [h5.heap]
  show (wp.setCell ⟨w.heap.size+1,0,none⟩ (Value.slice vp sf.ord.length vc)).heap.size=_
  rw [← hp.out.heap]
  simp [World.setCell]
 rw [show cB (cB (cB (cB (cB (cB (cB (cB (cB (cB (cB (cB (cB c44))))))))))))=Code.ret from rfl]
 refine zc0 rm_xc ?_
 have d5:w5.cell? ⟨w.heap.size+1,0,none⟩=some (.slice vp sf.ord.length vc):=by
  have q:=zac ((hh _).trans hvo.out) 0
  exact q
 refine za0 rm_xc (zaa Try.func136) (zcn _) (v := .tuple #[.slice vp sf.ord.length vc,.bool (decide (0 < zbe sf.co n)),.slice U.bp n n]) (by
  rw [zdi]
  refine ⟨rfl,rfl,rfl,_,Try.func136,?_⟩
  refine results_ctt (p:=6) (u:=7) (v:=8) (ty:=24) rfl _ _ _ _ ⟨w.heap.size+1,0,none⟩ rfl ?_
  simp [loadVar,go_sem,d5]) ?_
 have lt:∀ {b:Nat} {o:Obj},w'.heap[b]?=some o→b < w'.heap.size:=fun e=>(Array.getElem?_eq_some_iff.1 e).1
 refine h.out own w5 _ _ (hloc _ _ _ _ _ hrep.out (zcs fun b hb=>hh b)) (fun b hb ho=>⟨(hlow.out b hb ho).1,(hh b).trans (hlow.out b hb ho).2⟩) (by omega) u5 (fun b hb=>hfr.out b (by omega)) ?_
 obtain ⟨r1,r2⟩:=hrow.out
 refine ⟨r1,?_⟩
 rcases r2 with e | ⟨g,cap,cur,e,q1,q2,q3⟩
 ·
  exact .inl e
 ·
  exact .inr ⟨g,cap,cur,e,by omega,(hh g).trans q2,q3⟩
end
end Go.Proofs.Ytofacoojpgkbiaa
/-
 THE PLAIN LAW of whose turn it is: a schedule gone through one by one,then turn by turn,is the schedule's fold and the rounds. No program in sight;no condition of its own.
-/
namespace Go.Proofs.Ytofacoojpgkbiaa
open Go.ConcN (upd upd_ne upd_same)
set_option maxRecDepth 100000
section
variable {M:Type} {n mo:Nat}
theorem leftO_zero {co:Nat→Co M}:∀ k,zbe co k=0→∀ j,j < k→(co j).isFin=true
 | 0,_,j,hj=>by omega
 | k+1,h,j,hj=>by
  unfold zbe at h
  by_cases e:j=k
  ·
   subst e
   cases hf:(co j).isFin with
   | true=>rfl
   | false=>rw [hf] at h;simp at h
  ·
   exact leftO_zero k (by omega) j (by omega)
end
end Go.Proofs.Ytofacoojpgkbiaa
