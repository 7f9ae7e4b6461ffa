/-
  Merged out of: Gate24 Gate25 Gate26 GPl0 Gate27 Gate28 Gate29 Gate30. No condition of its own.
-/
import Derived.Test.YtofacoojpgkbiaaPlaysP30
import Derived.Test.YtofacoojpgkbiaaPlaysP06
set_option linter.unusedVariables false
set_option maxHeartbeats 8000000
set_option linter.unusedSimpArgs false
/-
 Calls upon a gate by goroutine 0 beside leavers,without a stepper: whatever else there is is left as it was. No condition of its own.
-/
namespace Go.Proofs.Ytofacoojpgkbiaa
open Go.Conc Go.RowKit
open Go.ConcN (upd upd_ne upd_same)
set_option maxRecDepth 100000
structure GW (gb:Nat) (s:GateS) (own:Nat→Owner) (w:World):Prop where
 rep:GateAt gb s own w
 new:∀ b,w.heap.size≤b→own b = .out
 pub:∀ b,own b ≠ .out→b=gb∨∃ t,0 < t∧own b = .tag t
structure Left (own own':Nat→Owner) (w w':World):Prop where
 same:∀ b,b < w.heap.size→own b = .out→own' b = .out∧w'.heap[b]?=w.heap[b]?
 size:w.heap.size≤w'.heap.size
 outs:w'.os=w.os∧w'.output=w.output
theorem Left.refl {own:Nat→Owner} {w:World}:Left own own w w:=⟨fun _ _ h=>⟨h,rfl⟩,Nat.le_refl _,rfl,rfl⟩
theorem Left.trans {o1 o2 o3:Nat→Owner} {w1 w2 w3:World} (h1:Left o1 o2 w1 w2) (h2:Left o2 o3 w2 w3):Left o1 o3 w1 w3 :=
 ⟨fun b hb ho=>⟨(h2.same b (by have:=h1.size;omega) (h1.same b hb ho).1).1,(h2.same b (by have:=h1.size;omega) (h1.same b hb ho).1).2.trans (h1.same b hb ho).2⟩,Nat.le_trans h1.size h2.size,h2.outs.1.trans h1.outs.1,h2.outs.2.trans h1.outs.2⟩
theorem GW.keep {gb:Nat} {s:GateS} {own:Nat→Owner} {w w':World} (h:GW gb s own w) (hs:w.heap.size≤w'.heap.size) (hk:∀ b,b < w.heap.size→own b ≠ .out→w'.heap[b]?=w.heap[b]?):GW gb s own w':=by
 have lt:∀ {b},own b ≠ .out→b < w.heap.size:=fun {b} hb=>by
  rcases Nat.lt_or_ge b w.heap.size with z | z
  ·
   exact z
  ·
   exact absurd (h.new b z) hb
 exact ⟨(famGate gb).keep h.rep (fun b c t f hb _ _ _=>⟨hb,hk b (lt (by rw [hb];simp)) (by rw [hb];simp)⟩) (fun b v _ hb=>⟨hb,hk b (lt (by rw [hb];simp)) (by rw [hb];simp)⟩) (fun b v hb => .inl hb),fun b hb=>h.new b (by omega),h.pub⟩
open Classical in
noncomputable def own0G (own:Nat→Owner) (n:Nat):Nat→Owner:=fun b=>if own b = .out∧b < n then .tag 0 else own b
open Classical in
noncomputable def own1G (gb:Nat) (own:Nat→Owner):Nat→Owner:=fun b=>if b=gb then .sh else if ∃ t,0 < t∧own b = .tag t then own b else .out
section
variable {Z:Machine→Trace→Prop} {Q:Nat→SM GateS→Prop} {o:Os×Array (Nat×ByteArray)} {gb:Nat} {s s':GateS} {own:Nat→Owner} {w:World} {c:Frame} {cs:List Frame}
theorem GW.ctx (h:GW gb s own w):(niMd (RepG gb) 0 Z Q o).C (0:Nat) (own0G own w.heap.size) (fun _=>False) ⟨w.heap,⟨s,fun _=>[]⟩,own0G own w.heap.size⟩ w ⟨s,fun _=>[]⟩:=by
 refine ⟨trivial,?_,fun b hb => ?_,fun b hb=>hb.elim,rfl,.refl⟩
 ·
  refine (famGate gb).keep h.rep (fun b c t f hb _ _ _=>⟨?_,rfl⟩) (fun b v _ hb=>⟨?_,rfl⟩) fun b v hb => ?_
  ·
   unfold own0G;rw [hb];simp
  ·
   unfold own0G;rw [hb];simp
  ·
   unfold own0G at hb
   split at hb
   ·
    cases hb
    exact .inr (by omega)
   ·
    exact .inl hb
 ·
  unfold own0G
  rw [if_neg (by omega)]
  exact h.new b hb
theorem GW.after {A₁:Nat→Prop} {w₁:W0 (SM GateS)} (h:GW gb s own w) {y:Nat} {own4:Nat→Owner} {w4:World} {m4:SM GateS} (C:(niMd (RepG gb) 0 Z Q o).C y own4 A₁ w₁ w4 m4) (L:Less 0 (fun _=>False) ⟨w.heap,⟨s,fun _=>[]⟩,own0G own w.heap.size⟩ A₁ w₁) (hm:m4=⟨s',fun _=>[]⟩) (hk:w4.os=w.os∧w4.output=w.output) :
  GW gb s' (own1G gb own4) w4∧Left own (own1G gb own4) w w4:=by
 have tg:∀ b,b < w.heap.size→own b = .out→own4 b = .tag 0∧w4.heap[b]?=w.heap[b]?:=fun b hb ho=>by
  have h1:own0G own w.heap.size b = .tag 0:=if_pos ⟨ho,hb⟩
  obtain ⟨q1,q2⟩:=L.tag b 0 h1
  obtain ⟨q3,q4⟩:=C.tg b 0 q1
  exact ⟨q3,q4.trans q2⟩
 have hrep:GateAt gb m4.st own4 w4:=C.rep
 rw [hm] at hrep
 have hs4:w.heap.size≤w4.heap.size:=by
  rcases Nat.lt_or_ge w4.heap.size w.heap.size with z | z
  ·
   by_cases ho:own w4.heap.size = .out
   ·
    have h1:=(tg _ z ho).1
    rw [C.fresh _ (Nat.le_refl _)] at h1
    cases h1
   ·
    obtain ⟨_,_,gcell,_⟩:=hrep.cell
    have gl:=(Array.getElem?_eq_some_iff.1 gcell).1
    rcases h.pub _ ho with h1 | ⟨v,_,h1⟩
    ·
     omega
    ·
     have h3:own0G own w.heap.size w4.heap.size = .tag v:=(if_neg fun q=>ho q.1).trans h1
     obtain ⟨q1,_⟩:=L.tag _ v h3
     have h4:=(C.tg _ v q1).1
     rw [C.fresh _ (Nat.le_refl _)] at h4
     cases h4
  ·
   exact z
 obtain ⟨_,_,gcell,_⟩:=hrep.cell
 have gl:=(Array.getElem?_eq_some_iff.1 gcell).1
 have og:=hrep.sh
 have hout:∀ b,b≠gb→(¬ ∃ t,0 < t∧own4 b = .tag t)→own1G gb own4 b = .out:=fun b h1 h2=>by
  unfold own1G
  rw [if_neg h1,if_neg h2]
 refine ⟨⟨gate_keep hrep ⟨if_pos rfl,rfl⟩ (fun b v hv hb=>⟨?_,rfl⟩) fun b v hb => ?_,fun b hb=>hout b (by omega) ?_,fun b hb => ?_⟩,⟨fun b hb ho=>⟨hout b ?_ ?_,(tg b hb ho).2⟩,hs4,hk⟩⟩
 ·
  have hne:b≠gb:=fun z=>by rw [z,og] at hb;cases hb
  unfold own1G
  rw [if_neg hne,if_pos ⟨v,hv,hb⟩]
  exact hb
 ·
  unfold own1G at hb
  split at hb
  ·
   cases hb
  ·
   split at hb
   ·
    exact .inl hb
   ·
    cases hb
 ·
  rintro ⟨t,_,z⟩
  rw [C.fresh b hb] at z
  cases z
 ·
  unfold own1G at hb ⊢
  split
  ·
   rename_i z;exact .inl z
  ·
   rename_i z
   rw [if_neg z] at hb
   split at hb
   ·
    rename_i q
    obtain ⟨t,h1,h2⟩:=q
    rw [if_pos ⟨t,h1,h2⟩]
    exact .inr ⟨t,h1,h2⟩
   ·
    exact absurd rfl hb
 ·
  intro z
  have h1:=(tg b hb ho).1
  rw [z,og] at h1
  cases h1
 ·
  rintro ⟨t,h0,z⟩
  rw [(tg b hb ho).1] at z
  cases z
  omega
open Classical in
theorem ni_pure {ρ:Type} {r0:ρ} {V:ρ→Value} {Φ:(ρ→Fu (SM GateS))→Fu (SM GateS)} {g:Goroutine} (G0:GW gb s own w)
  (hF:∀ {Q:Nat→SM GateS→Prop} {o:Os×Array (Nat×ByteArray)} {w₀:W0 (SM GateS)} {κ:ρ→Fu (SM GateS)},(∀ r,(niMd (RepG gb) 0 Z Q o).F (κ r) (fun _=>False) w₀ (G (c.finish (V r)) cs))→(niMd (RepG gb) 0 Z Q o).F (Φ κ) (fun _=>False) w₀ g)
  (hrun:∀ {Q:Nat→SM GateS→Prop} {κ:ρ→Fu (SM GateS)},(∀ x,x≤1000→FF Q (κ r0) x ⟨s',fun _=>[]⟩)→FF Q (Φ κ) 0 ⟨s,fun _=>[]⟩)
  (h:∀ own' w',GW gb s' own' w'→Left own own' w w'→RM Try.prog Z (G (c.finish (V r0)) cs) w'):RM Try.prog Z g w:=by
 have:=hF (Q:=fun _ m=>m=⟨s',fun _=>[]⟩) (o:=(w.os,w.output)) (w₀:=⟨w.heap,⟨s,fun _=>[]⟩,own0G own w.heap.size⟩) (κ:=fun r=>if r=r0 then finF else cutF) (fun r y own4 w4 m4 C4 hk hQ => ?_) _ _ _ _ G0.ctx ⟨rfl,rfl⟩ (hrun fun x _=>by rw [if_pos rfl];rfl)
 ·
  exact this
 ·
  by_cases hr:r=r0
  ·
   subst hr
   rw [if_pos rfl] at hQ
   obtain ⟨G1,L1⟩:=G0.after C4 .refl (show m4=_ from hQ) hk
   exact h _ _ G1 L1
  ·
   rw [if_neg hr] at hQ
   exact hQ.elim
end
end Go.Proofs.Ytofacoojpgkbiaa
/-
 What a gate answers to goroutine 0,without a stepper: Set,Get,Join,Leave,List,Least,May. No condition of its own.
-/
namespace Go.Proofs.Ytofacoojpgkbiaa
open Go.Conc Go.RowKit
open Go.ConcN (upd upd_ne upd_same)
set_option maxRecDepth 100000
def joinR (s:GateS) (p a:Int):Int×GateS:=if p < 0∨64≤p then (1,s) else if p∈s.mem then (7,s) else (0,joinS s p a)
def leaveR (s:GateS) (p:Int):Int×GateS:=if p < 0∨64≤p then (1,s) else if p∈s.mem then (0,{ s with ser:=s.ser+1,mem:=s.mem.erase p }) else (6,s)
def leastR (num:Nat→Int):List Int→Int→Int→Int×Int
 | [],n,p=>(n,p)
 | q::l,n,p=>if p < 0∨num q.toNat < n then leastR num l (num q.toNat) q else leastR num l n p
def mayR (s:GateS) (q size:Int):Bool×Int:=if q < -9223372036854775808+max size 1∨q - max size 1≤(leastR s.num s.mem q (-1)).1 then (true,-1) else (false,(leastR s.num s.mem q (-1)).2)
theorem ff_least {Q:Nat→SM GateS→Prop} {an:Nat→List Ans} {s:GateS} {κ:Int→Int→Fu (SM GateS)}:∀ (l:List Int) (n p:Int) (x:Nat),(∀ q∈l,0≤q∧q < 64)→x+l.length≤1000→(∀ y,y≤1000→FF Q (κ (leastR s.num l n p).1 (leastR s.num l n p).2) y ⟨s,an⟩)→FF Q (zbr (idL GateS) κ l n p) x ⟨s,an⟩
 | [],n,p,x,hl,hx,h=>h x (by simp at hx;omega)
 | q::l,n,p,x,hl,hx,h=>by
  have hq:=hl q (List.mem_cons_self ..)
  simp only [List.length_cons] at hx
  unfold zbr getF
  rw [if_neg (by omega)]
  refine ff_step (by omega) ?_
  show FF Q (if p < 0∨s.num q.toNat < n then zbr (idL GateS) κ l (s.num q.toNat) q else zbr (idL GateS) κ l n p) (x+1) ⟨s,an⟩
  unfold leastR at h
  by_cases hc:p < 0∨s.num q.toNat < n
  ·
   rw [if_pos hc] at h ⊢
   exact ff_least l _ _ (x+1) (fun y hy=>hl y (List.mem_cons_of_mem _ hy)) (by omega) h
  ·
   rw [if_neg hc] at h ⊢
   exact ff_least l _ _ (x+1) (fun y hy=>hl y (List.mem_cons_of_mem _ hy)) (by omega) h
section
variable {Z:Machine→Trace→Prop} {gb:Nat} {s:GateS} {own:Nat→Owner} {w:World} {c:Frame} {cs:List Frame}
theorem ni_ok {Q:Nat→SM GateS→Prop} {o:Os×Array (Nat×ByteArray)}:(niMd (RepG gb) 0 Z Q o).Ok:=niMd_ok (locG gb)
theorem join_runs (G0:GW gb s own w) {p a:Int} (ha:zem a) (h:∀ own' w',GW gb (joinR s p a).2 own' w'→Left own own' w w'→RM Try.prog Z (G (c.finish (.int .i64 (joinR s p a).1)) cs) w') :
  RM Try.prog Z (G (Frame.enter Try.prog 73 #[gpv gb,.nilIface,.int .i64 p,.int .i64 a] .normal) (c::cs)) w:=by
 refine ni_pure (ρ:=Int) (r0:=(joinR s p a).1) (V:=fun e => .int .i64 e) (Φ:=joinF (idL GateS) 1 p a) (s':=(joinR s p a).2) G0 (fun {Q o w₀ κ} hκ=>join_cps (md:=niMd (RepG gb) 0 Z Q o) ni_ok partNi ha 1 trivial fun e _=>hκ e) (fun {Q κ} hr => ?_) h
 unfold joinR at hr
 by_cases hb:p < 0∨64≤p
 ·
  unfold joinF
  rw [if_pos hb] at hr ⊢
  exact hr 0 (by omega)
 ·
  rw [if_neg hb] at hr
  by_cases hm:p∈s.mem
  ·
   rw [if_pos hm] at hr
   unfold joinF
   rw [if_neg hb]
   unfold joinL
   refine ff_step (by omega) ?_
   show FF Q (joinB (idL GateS) p a κ _ s.ser s.mem) 1 ⟨s,fun _=>[]⟩
   unfold joinB
   rw [if_pos hm]
   exact hr 1 (by omega)
  ·
   rw [if_neg hm] at hr
   exact ff_join (by omega) (by omega) hm (by omega) (hr 3 (by omega))
theorem leave_runs (G0:GW gb s own w) {p:Int} (h:∀ own' w',GW gb (leaveR s p).2 own' w'→Left own own' w w'→RM Try.prog Z (G (c.finish (.int .i64 (leaveR s p).1)) cs) w') :
  RM Try.prog Z (G (Frame.enter Try.prog 76 #[gpv gb,.nilIface,.int .i64 p] .normal) (c::cs)) w:=by
 refine ni_pure (ρ:=Int) (r0:=(leaveR s p).1) (V:=fun e => .int .i64 e) (Φ:=zd2 (idL GateS) 1 p) (s':=(leaveR s p).2) G0 (fun {Q o w₀ κ} hκ=>leave_cps (md:=niMd (RepG gb) 0 Z Q o) ni_ok partNi 1 trivial fun e _=>hκ e) (fun {Q κ} hr => ?_) h
 unfold leaveR at hr
 by_cases hb:p < 0∨64≤p
 ·
  unfold zd2
  rw [if_pos hb] at hr ⊢
  exact hr 0 (by omega)
 ·
  rw [if_neg hb] at hr
  unfold zd2
  rw [if_neg hb]
  unfold zej
  refine ff_step (by omega) ?_
  show FF Q (zek (idL GateS) p κ _ s.ser s.mem) 1 ⟨s,fun _=>[]⟩
  unfold zek
  by_cases hm:p∈s.mem
  ·
   rw [if_pos hm] at hr ⊢
   refine ff_step (by omega) ?_
   unfold FF casP
   rw [if_pos (show ((idL GateS).get (SM.mk s fun _=>[]).st).ser=s.ser from rfl)]
   exact hr 2 (by omega)
  ·
   rw [if_neg hm] at hr ⊢
   exact hr 1 (by omega)
theorem least_runs (G0:GW gb s own w) {none:Int} (hn:zem none) (h:∀ own' w',GW gb s own' w'→Left own own' w w'→RM Try.prog Z (G (c.finish (.tuple #[.int .i64 (leastR s.num s.mem none (-1)).1,.int .i64 (leastR s.num s.mem none (-1)).2])) cs) w') :
  RM Try.prog Z (G (Frame.enter Try.prog 74 #[gpv gb,.nilIface,.int .i64 none] .normal) (c::cs)) w:=by
 refine ni_pure (ρ:=Int×Int) (r0:=leastR s.num s.mem none (-1)) (V:=fun e => .tuple #[.int .i64 e.1,.int .i64 e.2]) (Φ:=fun κ=>leastF (idL GateS) none fun n p=>κ (n,p)) (s':=s) G0 (fun {Q o w₀ κ} hκ=>least_cps (md:=niMd (RepG gb) 0 Z Q o) ni_ok partNi hn trivial fun n p _ _=>hκ (n,p)) (fun {Q κ} hr => ?_) h
 refine ff_step (by omega) ?_
 exact ff_least (κ:=fun n p=>κ (n,p)) s.mem none (-1) 1 G0.rep.mem.2 (by have:=zbp G0.rep.mem;omega) hr
theorem may_runs (G0:GW gb s own w) {q size:Int} (hq:zem q) (hs:zem size) (h:∀ own' w',GW gb s own' w'→Left own own' w w'→RM Try.prog Z (G (c.finish (.tuple #[.bool (mayR s q size).1,.int .i64 (mayR s q size).2])) cs) w') :
  RM Try.prog Z (G (Frame.enter Try.prog 75 #[gpv gb,.nilIface,.int .i64 q,.int .i64 size] .normal) (c::cs)) w:=by
 refine ni_pure (ρ:=Bool×Int) (r0:=mayR s q size) (V:=fun e => .tuple #[.bool e.1,.int .i64 e.2]) (Φ:=fun κ=>mayF (idL GateS) q size fun t p=>κ (t,p)) (s':=s) G0 (fun {Q o w₀ κ} hκ=>may_cps (md:=niMd (RepG gb) 0 Z Q o) ni_ok partNi hq hs trivial fun t p _=>hκ (t,p)) (fun {Q κ} hr => ?_) h
 refine ff_step (by omega) ?_
 refine ff_least s.mem q (-1) 1 G0.rep.mem.2 (by have:=zbp G0.rep.mem;omega) fun y hy => ?_
 unfold mayR at hr
 split
 ·
  rename_i hc
  rw [if_pos hc] at hr
  exact hr y hy
 ·
  rename_i hc
  rw [if_neg hc] at hr
  exact hr y hy
end
end Go.Proofs.Ytofacoojpgkbiaa
/-
 The chapter's examples: fixed,by goroutine 0 beside leavers. No condition of its own.
-/
namespace Go.Proofs.Ytofacoojpgkbiaa
open Go.Conc Go.RowKit
open Go.ConcN (upd upd_ne upd_same)
set_option maxRecDepth 100000
def fxT:Tr:=trG [] [[⟨1,0,5,0⟩],[⟨1,1,6,0⟩]] [0,1,0,1,0,1] 99
theorem fx_ord:fxT.ord.length=9:=by decide +kernel
theorem fx_st:fxT.st.length=67∧fxT.st[0]?=some 2∧fxT.st[1]?=some 0∧fxT.st[2]?=some 1∧fxT.st[3]?=some 5∧fxT.st[4]?=some 6:=by decide +kernel
theorem fx_an:fxT.ans.length=2:=by decide +kernel
def sG0:GateS:=⟨0,[],fun _ => -1⟩
def sG1:GateS:=(joinR sG0 3 10).2
def sG2:GateS:=(joinR sG1 1 7).2
def sG3:GateS:=(joinR sG2 3 0).2
def sG4:GateS:=(leaveR sG3 3).2
theorem fx_calls:(joinR sG0 3 10).1=0∧(joinR sG1 1 7).1=0∧(joinR sG2 3 0).1=7∧leastR sG3.num sG3.mem 0 (-1)=(7,1)∧(mayR sG3 15 8).1=true∧mayR sG3 16 8=(false,1)∧(leaveR sG3 3).1=0∧(leaveR sG4 3).1=6:=by decide +kernel
structure LeftW (w w':World):Prop where
 same:∀ b,b < w.heap.size→w'.heap[b]?=w.heap[b]?
 size:w.heap.size≤w'.heap.size
 outs:w'.os=w.os∧w'.output=w.output
theorem LeftW.trans {w1 w2 w3:World} (h1:LeftW w1 w2) (h2:LeftW w2 w3):LeftW w1 w3:=⟨fun b hb=>(h2.same b (by have:=h1.size;omega)).trans (h1.same b hb),Nat.le_trans h1.size h2.size,h2.outs.1.trans h1.outs.1,h2.outs.2.trans h1.outs.2⟩
theorem LeftW.of_sim {w w':World} (h:w'.heap=w.heap) (ho:w'.os=w.os∧w'.output=w.output):LeftW w w':=⟨fun b _=>by rw [h],by rw [h];exact Nat.le_refl _,ho⟩
theorem LeftW.alloc {w w':World} (h:LeftW w w') (o:Obj):LeftW w (w'.alloc o):=⟨fun b hb=>(Below.heap_alloc _ _ _ (by have:=h.size;omega)).trans (h.same b hb),by have:=h.size;simp;omega,h.outs⟩
theorem LeftW.refl {w:World}:LeftW w w:=⟨fun _ _=>rfl,Nat.le_refl _,rfl,rfl⟩
theorem LeftW.sim {w w1 w2:World} (h:LeftW w w1) (h2:Sim w2 w1):LeftW w w2:=h.trans (.of_sim h2.heap h2.outs)
theorem NewG.gate {w w1:World} {N:Nat} (h:NewG N 64 w w1) (hN:w.heap.size=N):GW N sG0 (fun b=>if b=N then .sh else .out) w1∧LeftW w w1:=by
 obtain ⟨hb,hs,c,c1,c2,c3,c4⟩:=h
 have hno:∀ b t,(if b=N then Owner.sh else .out) ≠ .tag t:=fun b t=>by split<;>simp
 refine ⟨⟨⟨if_pos rfl,⟨none,c,c1,c2,c3,fun j hj=>by rw [c4 j hj,if_pos hj];rfl,.inl ⟨rfl,rfl,rfl⟩⟩,fun j _=>by constructor<;>simp [sG0],⟨List.nodup_nil,fun x hx=>by cases hx⟩,fun b b' t q _=>absurd q (hno b _),fun b t q=>absurd q (hno b _)⟩,fun b hb=>if_neg (by omega),fun b hb => ?_⟩,⟨fun b hb'=>hb.block b (by omega),by omega,hb.os,hb.output⟩⟩
 by_cases h:b=N
 ·
  exact .inl h
 ·
  rw [if_neg h] at hb;exact absurd rfl hb
structure GL (w:World) (gb:Nat) (s:GateS) (own:Nat→Owner) (w1:World):Prop where
 g:GW gb s own w1
 l:LeftW w w1
 o:∀ b,b < w.heap.size→own b = .out
theorem GL.step {w w1 w2:World} {gb:Nat} {s s':GateS} {own own':Nat→Owner} (h:GL w gb s own w1) (g:GW gb s' own' w2) (l:Left own own' w1 w2):GL w gb s' own' w2 :=
 ⟨g,⟨fun b hb=>(l.same b (by have:=h.l.size;omega) (h.o b hb)).2.trans (h.l.same b hb),Nat.le_trans h.l.size l.size,l.outs.1.trans h.l.outs.1,l.outs.2.trans h.l.outs.2⟩,fun b hb=>(l.same b (by have:=h.l.size;omega) (h.o b hb)).1⟩
theorem GL.sim {w w1 w2:World} {gb:Nat} {s:GateS} {own:Nat→Owner} (h:GL w gb s own w1) (e:w2.heap=w1.heap) (ho:w2.os=w1.os∧w2.output=w1.output):GL w gb s own w2 :=
 ⟨h.g.keep (by rw [e];exact Nat.le_refl _) (fun b _ _=>by rw [e]),h.l.trans (.of_sim e ho),h.o⟩
theorem alloc4 {w W:World} {a b c d:Obj} {N:Nat} (hN:w.heap.size=N) (h:W.heap=((((w.alloc a).alloc b).alloc c).alloc d).heap):W.heap[N]?=some a∧W.heap[N+1]?=some b∧W.heap[N+1+1]?=some c∧W.heap[N+1+1+1]?=some d:=by
 subst hN
 have s1:(w.alloc a).heap.size=w.heap.size+1:=by simp
 have s2:((w.alloc a).alloc b).heap.size=w.heap.size+1+1:=by simp
 have s3:(((w.alloc a).alloc b).alloc c).heap.size=w.heap.size+1+1+1:=by simp
 rw [h]
 refine ⟨?_,?_,?_,?_⟩
 ·
  rw [Below.heap_alloc _ _ _ (by omega),Below.heap_alloc _ _ _ (by omega),Below.heap_alloc _ _ _ (by omega)]
  exact heap_alloc_new _ _
 ·
  rw [Below.heap_alloc _ _ _ (by omega),Below.heap_alloc _ _ _ (by omega),← s1]
  exact heap_alloc_new _ _
 ·
  rw [Below.heap_alloc _ _ _ (by omega),← s2]
  exact heap_alloc_new _ _
 ·
  rw [← s3]
  exact heap_alloc_new _ _
theorem fx_in {w:World} {N:Nat} (m1:w.heap[N]?=some (.cells #[.int .i64 1,.int .i64 0,.int .i64 5,.int .i64 0] 45 (0,0))) (m2:w.heap[N+1]?=some (.cells #[.int .i64 1,.int .i64 1,.int .i64 6,.int .i64 0] 45 (0,0)))
  (m3:w.heap[N+1+1]?=some (.cells #[.slice (some ⟨N,0,none⟩) 1 1,.slice (some ⟨N+1,0,none⟩) 1 1] 34 (0,0))) (m4:w.heap[N+1+1+1]?=some (.cells #[.int .i64 0,.int .i64 1,.int .i64 0,.int .i64 1,.int .i64 0,.int .i64 1] 3 (0,0))) :
  ThrIn w (.slice (some ⟨N+1+1,0,none⟩) 2 2) [[⟨1,0,5,0⟩],[⟨1,1,6,0⟩]]∧IntsIn w (.slice (some ⟨N+1+1+1,0,none⟩) 6 6) [0,1,0,1,0,1]:=by
 have op:∀ {b:Nat} {k a x c:Int},w.heap[b]?=some (.cells #[.int .i64 k,.int .i64 a,.int .i64 x,.int .i64 c] 45 (0,0))→(OpD.mk k a x c).Ok→OpsIn w (some ⟨b,0,none⟩) 1 1 [⟨k,a,x,c⟩]:=fun {b k a x c} hb ho=>by
  refine ⟨fun o h=>by simp at h;subst h;exact ho,rfl,Nat.le_refl _,fun _=>⟨b,0,rfl,fun j p hj => ?_⟩⟩
  rcases j with _ | j
  ·
   simp at hj
   subst hj
   exact ⟨zac hb 0,zac hb 1,zac hb 2,zac hb 3⟩
  ·
   simp at hj
 refine ⟨⟨_,2,rfl,fun i=>if i=0 then some ⟨N,0,none⟩ else some ⟨N+1,0,none⟩,fun _=>1,fun _=>1,fun _=>⟨N+1+1,0,rfl,fun i L hi => ?_⟩,fun i L hi => ?_⟩,fun x hx => ?_,_,6,rfl,Nat.le_refl _,fun _=>⟨N+1+1+1,0,rfl,fun j x hj => ?_⟩⟩
 ·
  rcases i with _ | _ | i
  ·
   exact zac m3 0
  ·
   exact zac m3 1
  ·
   simp at hi
 ·
  rcases i with _ | _ | i
  ·
   simp at hi;subst hi
   exact op m1 (by constructor<;>constructor<;>decide)
  ·
   simp at hi;subst hi
   exact op m2 (by constructor<;>constructor<;>decide)
  ·
   simp at hi
 ·
  have:x=0∨x=1:=by simp at hx;omega
  rcases this with rfl | rfl<;>constructor<;>decide
 ·
  rw [Nat.zero_add,zac m4]
  rcases j with _ | _ | _ | _ | _ | _ | j<;>first | (simp at hj;subst hj;rfl) | (simp at hj)
section
variable {Z:Machine→Trace→Prop} {c:Frame} {cs:List Frame}
theorem fixed_runs {w:World} (h:∀ w',LeftW w w'→RM Try.prog Z (G (c.finish (.bool true)) cs) w'):RM Try.prog Z (G (Frame.enter Try.prog 16 #[] .normal) (c::cs)) w:=by
 rw [enter_at _ Try.func16 rfl]
 simp only [Try.ntmps16,List.size_toArray,List.length_cons,List.length_nil,Nat.reduceAdd,Nat.reduceSub,Array.replicate_succ,
   Array.replicate_zero,List.push_toArray,List.append_toArray,List.nil_append,List.cons_append]
 replace h:=Lib.hid h
 have L:LeftW w w := .refl
 refine zae rm_xc fun R0 hR0 => ?_
 refine zcj prgN (zab zag (by kernel_rfl)) rfl (zaa Try.func16) rfl fun wp hp => ?_
 replace hp:=Lib.hid hp
 go_wp2_with fail
 refine fun w1 h1 => ?_
 replace L:=L.trans ((LeftW.of_sim hp.out.heap hp.out.outs).sim h1)
 have e1:w1.heap=_:=h1.heap.trans hp.out.heap
 clear h1 hp wp
 obtain rfl:=hR0.out
 clear hR0
 clear e1
 refine zae rm_xc fun R0 hR0 => ?_
 refine rm_reg 6 (by decide) (by decide) (zaj (by kernel_rfl)) fun wp hp => ?_
 simp only [List.take_succ_cons,List.take_zero]
 obtain ⟨N,hN⟩:∃ N,wp.heap.size=N:=⟨_,rfl⟩
 replace hN:=Lib.hid hN
 replace hp:=Lib.hid hp
 go_wp2_with fail
 refine za6 rfl fun w2 h2 => ?_
 replace L:=L.trans ((((((LeftW.of_sim hp.out.heap hp.out.outs).alloc _).alloc _).alloc _).alloc _).sim h2)
 obtain ⟨m1,m2,m3,m4⟩:=alloc4 hN.out h2.heap
 have hNN:=hN.out
 rw [hNN] at m3 ⊢
 clear h2 hp hNN hN wp
 obtain ⟨hT,hS⟩:=fx_in m1 m2 m3 m4
 clear m1 m2 m3 m4
 refine zaz rm_xc rfl rfl (by decide) rfl Try.func18 (by kernel_rfl) (by kernel_rfl) ?_
 walk_nrm
 refine play_runs (l:=[]) (LL:=[[⟨1,0,5,0⟩],[⟨1,1,6,0⟩]]) (sch:=[0,1,0,1,0,1]) (most:=99) ⟨fun x hx=>(by cases hx),none,0,rfl,Nat.le_refl _,fun h=>absurd rfl h⟩ hT (by decide) (by decide) hS (by decide) (by decide) fun tv w3 hT3 k3 s3 o3 => ?_
 replace L:=L.trans ⟨k3,s3,o3⟩
 change TrIn w3 tv fxT at hT3
 obtain ⟨va,vo,vs,rfl,⟨aa,ac,rfl,_⟩,⟨oa,oc,rfl,_⟩,⟨sa,sc,rfl,hst⟩⟩:=hT3
 rw [fx_ord,fx_an,fx_st.1]
 obtain ⟨_,q0,q1,q2,q3,q4⟩:=fx_st
 obtain ⟨sb,so,rfl,hc⟩:=hst (by intro z;rw [z] at q0;cases q0)
 have c0:=hc 0 _ q0
 have c1:=hc 1 _ q1
 have c2:=hc 2 _ q2
 have c3:=hc 3 _ q3
 have c4:=hc 4 _ q4
 have hsb:=World.block_lt_of_cell? w3 _ c0
 clear hc hst q0 q1 q2 q3 q4 k3 s3 o3 hT hS
 generalize fxT.stuck=stk
 rw [Frame.finish_at]
 walk_nrm
 refine zc1 7 2 (by decide) (by decide) (zaj (by kernel_rfl)) fun wp hp => ?_
 simp only [List.drop_succ_cons,List.drop_zero,List.take_succ_cons,List.take_zero]
 obtain ⟨K,hK⟩:∃ K,wp.heap.size=K:=⟨_,rfl⟩
 replace hK:=Lib.hid hK
 replace hp:=Lib.hid hp
 go_wp2_with fail
 refine za6 rfl fun w4 h4 => ?_
 replace L:=L.trans (((LeftW.of_sim hp.out.heap hp.out.outs).alloc _).sim h4)
 have e4:w4.heap[K]?=some (.cells #[.slice aa 2 ac,.slice oa 9 oc,.slice (some ⟨sb,so,none⟩) 67 sc,.bool stk] 31 (0,0)):=by rw [h4.heap,← hK.out];exact heap_alloc_new _ _
 have k4:w4.heap[sb]?=w3.heap[sb]?:=by
  have hb:sb < w3.heap.size:=hsb
  rw [h4.heap,Below.heap_alloc _ _ _ (by rw [hp.out.heap];exact hb),hp.out.heap]
 have hKK:=hK.out
 rw [hKK]
 clear h4 hp hKK hK hsb wp
 refine zad rm_xc ?_
 obtain rfl:=hR0.out
 clear hR0
 refine zae rm_xc fun R0 hR0 => ?_
 refine zae rm_xc fun R1 hR1 => ?_
 refine zcj prgN (zab zag (by kernel_rfl)) rfl (zaa Try.func16) rfl fun wp hp => ?_
 have g4:wp.heap[K]?=_:=(congrArg (·[K]?) hp.heap).trans e4
 have d0:=zac g4 0
 have d1:=zac g4 1
 have d2:=zac g4 2
 have cc:∀ i v,w3.cell? ⟨sb,so+i,none⟩=some v→wp.cell? ⟨sb,so+i,none⟩=some v:=fun i v q=>(World.cell?_of_block (w:=w3) (by show wp.heap[sb]?=w3.heap[sb]?;rw [hp.heap,k4])).trans q
 replace c0:=cc 0 _ c0
 replace c1:=cc 1 _ c1
 replace c2:=cc 2 _ c2
 replace c3:=cc 3 _ c3
 replace c4:=cc 4 _ c4
 rw [Nat.add_zero] at c0
 simp only [List.getElem?_toArray,List.getElem?_cons_zero,List.getElem?_cons_succ] at d0 d1 d2
 replace g4:=Lib.hid g4
 clear cc
 replace hp:=Lib.hid hp
 go_wp2_with fail
 refine fun w5 h5 => ?_
 replace L:=L.trans ((LeftW.of_sim hp.out.heap hp.out.outs).sim h5)
 have e5:w5.heap=_:=h5.heap.trans hp.out.heap
 clear c0 c1 c2 c3 c4 d0 d1 d2 g4 h5 hp wp
 clear e5 e4 k4
 obtain rfl:=hR1.out
 clear hR1
 refine zao rm_xc (t:=false) rfl ?_
 refine zbq rm_xc ?_
 obtain rfl:=hR0.out
 clear hR0
 refine zae rm_xc fun R0 hR0 => ?_
 refine zcj prgN (zab zag (by kernel_rfl)) rfl (zaa Try.func16) rfl fun wp hp => ?_
 have hw:=new_walk wp
 obtain ⟨M,hM⟩:∃ M,wp.heap.size=M:=⟨_,rfl⟩
 rw [hM] at hw
 replace hM:=Lib.hid hM
 unfold gpv at hw
 replace hp:=Lib.hid hp
 go_wp2_with (go_at_call 20;refine hw.mono ?_;rintro e w' ⟨rfl,hG⟩;replace hG:=Lib.hid hG)
 refine fun w6 h6 => ?_
 obtain ⟨G1,L1⟩:=hG.out.gate hM.out
 have hMw:w.heap.size≤M:=by rw [← hM.out,hp.out.heap];exact L.size
 have I:GL w M sG0 (fun b=>if b=M then .sh else .out) w6:=(GL.mk G1 ((L.trans (.of_sim hp.out.heap hp.out.outs)).trans L1) fun b hb=>if_neg (by omega)).sim h6.heap h6.outs
 clear h6 hG hw hM hp G1 L1 L hMw wp
 generalize (fun b=>if b=M then Owner.sh else .out)=own0 at I
 obtain ⟨x1,x2,x3,x4,x5,x6,x7,x8⟩:=fx_calls
 obtain rfl:=hR0.out
 clear hR0
 refine zae rm_xc fun R0 hR0 => ?_
 refine zae rm_xc fun R1 hR1 => ?_
 refine rm_reg 4 (by decide) (by decide) (zaj (by kernel_rfl)) fun wp hp => ?_
 simp only [List.take_succ_cons,List.take_zero]
 replace hp:=Lib.hid hp
 go_wp2_with fail
 refine za6 rfl fun w7 h7 => ?_
 replace I:=I.sim (h7.heap.trans hp.out.heap) ⟨h7.outs.1.trans hp.out.outs.1,h7.outs.2.trans hp.out.outs.2⟩
 clear h7 hp wp
 unfold gpv at *
 refine zaz rm_xc rfl rfl (by decide) rfl Try.func73 (by kernel_rfl) (by kernel_rfl) ?_
 walk_nrm
 rw [show Value.pointer (some ⟨M,0,none⟩)=gpv M from rfl]
 refine join_runs I.g (by constructor<;>decide) fun own8 w8 Ga La => ?_
 replace I:GL w M (sG1) own8 w8:=I.step Ga La
 clear Ga La
 rw [x1]
 rw [Frame.finish_at]
 walk_nrm
 unfold gpv
 refine zc1 5 4 (by decide) (by decide) (zaj (by kernel_rfl)) fun wp hp => ?_
 simp only [List.drop_succ_cons,List.drop_zero,List.take_succ_cons,List.take_zero]
 replace hp:=Lib.hid hp
 go_wp2_with fail
 refine za6 rfl fun w9 h9 => ?_
 replace I:=I.sim (h9.heap.trans hp.out.heap) ⟨h9.outs.1.trans hp.out.outs.1,h9.outs.2.trans hp.out.outs.2⟩
 clear h9 hp wp
 refine zaz rm_xc rfl rfl (by decide) rfl Try.func73 (by kernel_rfl) (by kernel_rfl) ?_
 walk_nrm
 rw [show Value.pointer (some ⟨M,0,none⟩)=gpv M from rfl]
 refine join_runs I.g (by constructor<;>decide) fun own10 w10 Ga La => ?_
 replace I:GL w M (sG2) own10 w10:=I.step Ga La
 clear Ga La
 rw [x2]
 rw [Frame.finish_at]
 walk_nrm
 unfold gpv
 refine zc1 10 4 (by decide) (by decide) (zaj (by kernel_rfl)) fun wp hp => ?_
 simp only [List.drop_succ_cons,List.drop_zero,List.take_succ_cons,List.take_zero]
 replace hp:=Lib.hid hp
 go_wp2_with fail
 refine za6 rfl fun w11 h11 => ?_
 replace I:=I.sim (h11.heap.trans hp.out.heap) ⟨h11.outs.1.trans hp.out.outs.1,h11.outs.2.trans hp.out.outs.2⟩
 clear h11 hp wp
 refine zaz rm_xc rfl rfl (by decide) rfl Try.func73 (by kernel_rfl) (by kernel_rfl) ?_
 walk_nrm
 rw [show Value.pointer (some ⟨M,0,none⟩)=gpv M from rfl]
 refine join_runs I.g (by constructor<;>decide) fun own12 w12 Ga La => ?_
 replace I:GL w M (sG3) own12 w12:=I.step Ga La
 clear Ga La
 rw [x3]
 rw [Frame.finish_at]
 walk_nrm
 unfold gpv
 refine zc1 15 2 (by decide) (by decide) (zaj (by kernel_rfl)) fun wp hp => ?_
 simp only [List.drop_succ_cons,List.drop_zero,List.take_succ_cons,List.take_zero]
 replace hp:=Lib.hid hp
 go_wp2_with fail
 refine za6 rfl fun w13 h13 => ?_
 replace I:=I.sim (h13.heap.trans hp.out.heap) ⟨h13.outs.1.trans hp.out.outs.1,h13.outs.2.trans hp.out.outs.2⟩
 clear h13 hp wp
 refine zad rm_xc ?_
 obtain rfl:=hR1.out
 clear hR1
 refine zao rm_xc (t:=false) rfl ?_
 refine zbq rm_xc ?_
 obtain rfl:=hR0.out
 clear hR0
 refine zae rm_xc fun R0 hR0 => ?_
 refine rm_reg 1 (by decide) (by decide) (zaj (by kernel_rfl)) fun wp hp => ?_
 simp only [List.take_succ_cons,List.take_zero]
 replace hp:=Lib.hid hp
 go_wp2_with fail
 refine za6 rfl fun w14 h14 => ?_
 replace I:=I.sim (h14.heap.trans hp.out.heap) ⟨h14.outs.1.trans hp.out.outs.1,h14.outs.2.trans hp.out.outs.2⟩
 clear h14 hp wp
 refine zaz rm_xc rfl rfl (by decide) rfl Try.func74 (by kernel_rfl) (by kernel_rfl) ?_
 walk_nrm
 rw [show Value.pointer (some ⟨M,0,none⟩)=gpv M from rfl]
 refine least_runs I.g (by constructor<;>decide) fun own15 w15 Ga La => ?_
 replace I:GL w M (sG3) own15 w15:=I.step Ga La
 clear Ga La
 rw [x4]
 rw [Frame.finish_at]
 walk_nrm
 unfold gpv
 refine zc1 2 5 (by decide) (by decide) (zaj (by kernel_rfl)) fun wp hp => ?_
 simp only [List.drop_succ_cons,List.drop_zero,List.take_succ_cons,List.take_zero]
 replace hp:=Lib.hid hp
 go_wp2_with fail
 refine za6 rfl fun w16 h16 => ?_
 replace I:=I.sim (h16.heap.trans hp.out.heap) ⟨h16.outs.1.trans hp.out.outs.1,h16.outs.2.trans hp.out.outs.2⟩
 clear h16 hp wp
 refine zad rm_xc ?_
 obtain rfl:=hR0.out
 clear hR0
 refine zae rm_xc fun R0 hR0 => ?_
 refine rm_reg 1 (by decide) (by decide) (zaj (by kernel_rfl)) fun wp hp => ?_
 simp only [List.take_succ_cons,List.take_zero]
 replace hp:=Lib.hid hp
 go_wp2_with fail
 refine za6 rfl fun w17 h17 => ?_
 replace I:=I.sim (h17.heap.trans hp.out.heap) ⟨h17.outs.1.trans hp.out.outs.1,h17.outs.2.trans hp.out.outs.2⟩
 clear h17 hp wp
 refine zaz rm_xc rfl rfl (by decide) rfl Try.func75 (by kernel_rfl) (by kernel_rfl) ?_
 walk_nrm
 rw [show Value.pointer (some ⟨M,0,none⟩)=gpv M from rfl]
 refine may_runs I.g (by constructor<;>decide) (by constructor<;>decide) fun own18 w18 Ga La => ?_
 replace I:GL w M (sG3) own18 w18:=I.step Ga La
 clear Ga La
 rw [x5]
 rw [Frame.finish_at]
 walk_nrm
 unfold gpv
 refine zc1 2 5 (by decide) (by decide) (zaj (by kernel_rfl)) fun wp hp => ?_
 simp only [List.drop_succ_cons,List.drop_zero,List.take_succ_cons,List.take_zero]
 replace hp:=Lib.hid hp
 go_wp2_with fail
 refine za6 rfl fun w19 h19 => ?_
 replace I:=I.sim (h19.heap.trans hp.out.heap) ⟨h19.outs.1.trans hp.out.outs.1,h19.outs.2.trans hp.out.outs.2⟩
 clear h19 hp wp
 refine zad rm_xc ?_
 obtain rfl:=hR0.out
 clear hR0
 refine zae rm_xc fun R0 hR0 => ?_
 refine rm_reg 1 (by decide) (by decide) (zaj (by kernel_rfl)) fun wp hp => ?_
 simp only [List.take_succ_cons,List.take_zero]
 replace hp:=Lib.hid hp
 go_wp2_with fail
 refine za6 rfl fun w20 h20 => ?_
 replace I:=I.sim (h20.heap.trans hp.out.heap) ⟨h20.outs.1.trans hp.out.outs.1,h20.outs.2.trans hp.out.outs.2⟩
 clear h20 hp wp
 refine zaz rm_xc rfl rfl (by decide) rfl Try.func75 (by kernel_rfl) (by kernel_rfl) ?_
 walk_nrm
 rw [show Value.pointer (some ⟨M,0,none⟩)=gpv M from rfl]
 refine may_runs I.g (by constructor<;>decide) (by constructor<;>decide) fun own21 w21 Ga La => ?_
 replace I:GL w M (sG3) own21 w21:=I.step Ga La
 clear Ga La
 rw [x6]
 rw [Frame.finish_at]
 walk_nrm
 unfold gpv
 refine zc1 2 5 (by decide) (by decide) (zaj (by kernel_rfl)) fun wp hp => ?_
 simp only [List.drop_succ_cons,List.drop_zero,List.take_succ_cons,List.take_zero]
 replace hp:=Lib.hid hp
 go_wp2_with fail
 refine za6 rfl fun w22 h22 => ?_
 replace I:=I.sim (h22.heap.trans hp.out.heap) ⟨h22.outs.1.trans hp.out.outs.1,h22.outs.2.trans hp.out.outs.2⟩
 clear h22 hp wp
 refine zad rm_xc ?_
 obtain rfl:=hR0.out
 clear hR0
 refine zae rm_xc fun R0 hR0 => ?_
 refine rm_reg 19 (by decide) (by decide) (zaj (by kernel_rfl)) fun wp hp => ?_
 simp only [List.take_succ_cons,List.take_zero]
 replace hp:=Lib.hid hp
 go_wp2_with fail
 refine za6 rfl fun w23 h23 => ?_
 replace I:=I.sim (h23.heap.trans hp.out.heap) ⟨h23.outs.1.trans hp.out.outs.1,h23.outs.2.trans hp.out.outs.2⟩
 clear h23 hp wp
 refine zaz rm_xc rfl rfl (by decide) rfl Try.func76 (by kernel_rfl) (by kernel_rfl) ?_
 walk_nrm
 rw [show Value.pointer (some ⟨M,0,none⟩)=gpv M from rfl]
 refine leave_runs I.g  fun own24 w24 Ga La => ?_
 replace I:GL w M (sG4) own24 w24:=I.step Ga La
 clear Ga La
 rw [x7]
 rw [Frame.finish_at]
 walk_nrm
 unfold gpv
 refine zc1 20 4 (by decide) (by decide) (zaj (by kernel_rfl)) fun wp hp => ?_
 simp only [List.drop_succ_cons,List.drop_zero,List.take_succ_cons,List.take_zero]
 replace hp:=Lib.hid hp
 go_wp2_with fail
 refine za6 rfl fun w25 h25 => ?_
 replace I:=I.sim (h25.heap.trans hp.out.heap) ⟨h25.outs.1.trans hp.out.outs.1,h25.outs.2.trans hp.out.outs.2⟩
 clear h25 hp wp
 refine zaz rm_xc rfl rfl (by decide) rfl Try.func76 (by kernel_rfl) (by kernel_rfl) ?_
 walk_nrm
 rw [show Value.pointer (some ⟨M,0,none⟩)=gpv M from rfl]
 refine leave_runs I.g  fun own26 w26 Ga La => ?_
 replace I:GL w M ((leaveR sG4 3).2) own26 w26:=I.step Ga La
 clear Ga La
 rw [x8]
 rw [Frame.finish_at]
 walk_nrm
 unfold gpv
 refine zc1 25 3 (by decide) (by decide) (zaj (by kernel_rfl)) fun wp hp => ?_
 simp only [List.drop_succ_cons,List.drop_zero,List.take_succ_cons,List.take_zero]
 replace hp:=Lib.hid hp
 go_wp2_with fail
 refine za6 rfl fun w27 h27 => ?_
 replace I:=I.sim (h27.heap.trans hp.out.heap) ⟨h27.outs.1.trans hp.out.outs.1,h27.outs.2.trans hp.out.outs.2⟩
 clear h27 hp wp
 refine zad rm_xc ?_
 obtain rfl:=hR0.out
 clear hR0
 refine zc0 rm_xc ?_
 refine za0 rm_xc (zaa Try.func16) (zcn _) (by rw [zdi];exact ⟨rfl,rfl,rfl,_,Try.func16,results_tmp rfl _ _ _⟩) ?_
 exact h.out _ I.l
end
end Go.Proofs.Ytofacoojpgkbiaa
/-
 A region that draws its order,walked by what holds of each order's beginning. No condition of its own.
-/
namespace Go.Proofs.Ytofacoojpgkbiaa
open Go.Conc Go.RowKit
open Go.ConcN (upd upd_ne upd_same)
section
variable {P:Program} {D:Nat→Option (Nat×Nat)} {main:Bool} {K:World→Prop} {Still:Loc→Prop} {Inb:Nat→Option Seat} {GO:Goroutine→World→Prop} {b:Frame} {a:Act} {k:List Item} {cs:List Frame} {w:World} {ops:Array Oper}
theorem orders_all (I:Array Bool→Act→World→Prop) (hend:∀ listed a w,listed.size=ops.size→Region.ready .any ops listed=[]→I listed a w→GO (G (b.at a (.inRegion ops []::k)) cs) w)
  (hstep:∀ listed i,listed.size=ops.size→i∈Region.ready .any ops listed→∀ a w (r:List Nat),I listed a w→(∀ a' w',I (listed.setIfInBounds i true) a' w'→GO (G (b.at a' (.inRegion ops r::k)) cs) w')→GO (G (b.at a (.inRegion ops (i::r)::k)) cs) w) :
  ∀ (g:Nat) (listed:Array Bool) (r:List Nat),listed.size=ops.size→unl listed≤g→r∈zdj .any ops g listed→∀ a w,I listed a w→GO (G (b.at a (.inRegion ops r::k)) cs) w
 | 0,listed,r,hs,hu,hr,a,w,hI=>by
  obtain rfl:r=[]:=by simpa [zdj] using hr
  exact hend _ _ _ hs (ready_nil (by omega)) hI
 | g+1,listed,r,hs,hu,hr,a,w,hI=>by
  unfold zdj at hr
  cases hrd:Region.ready .any ops listed with
  | nil =>
   rw [hrd] at hr
   obtain rfl:r=[]:=by simpa using hr
   exact hend _ _ _ hs hrd hI
  | cons i0 rs =>
   rw [hrd] at hr
   simp only at hr
   obtain ⟨i,hi,hr⟩:=List.mem_flatMap.1 hr
   obtain ⟨r',hr',rfl⟩:=List.mem_map.1 hr
   rw [← hrd] at hi
   have hun:=unl_set (mem_ready.1 hi).1
   exact hstep _ _ hs hi _ _ _ hI fun a' w' hI'=>orders_all I hend hstep g _ _ (by simpa using hs) (by omega) hr' _ _ hI'
end
theorem rm_draws {P:Program} {Z:Machine→Trace→Prop} {b:Frame} {a:Act} {k:List Item} {cs:List Frame} {w:World} {ops:Array Oper} {id:Nat} (hm:P.follows .mixedOrders=true) (I:Array Bool→Act→World→Prop)
  (h0:I (Array.replicate ops.size false) a w) (hend:∀ listed a w,listed.size=ops.size→Region.ready .any ops listed=[]→I listed a w→RM P Z (G (b.at a (.inRegion ops []::k)) cs) w)
  (hstep:∀ listed i,listed.size=ops.size→i∈Region.ready .any ops listed→∀ a w (r:List Nat),I listed a w→(∀ a' w',I (listed.setIfInBounds i true) a' w'→RM P Z (G (b.at a' (.inRegion ops r::k)) cs) w')→RM P Z (G (b.at a (.inRegion ops (i::r)::k)) cs) w) :
  RM P Z (G (b.at a (.code (.region id ops true)::k)) cs) w :=
 x_draws rm_xc hm (zcn w) fun r hr=>orders_all I hend hstep _ _ r (by simp) (by
  unfold unl
  exact Nat.le_trans (List.countP_le_length) (by simp)) hr a w h0
def Low (w w':World):Prop:=w.heap.size≤w'.heap.size∧(∀ b,b < w.heap.size→w'.heap[b]?=w.heap[b]?)∧w'.os=w.os∧w'.output=w.output
theorem Low.refl (w:World):Low w w:=⟨Nat.le_refl _,fun _ _=>rfl,rfl,rfl⟩
theorem Low.trans {a b c:World} (h:Low a b) (k:Low b c):Low a c:=⟨Nat.le_trans h.1 k.1,fun x hx=>(k.2.1 x (Nat.lt_of_lt_of_le hx h.1)).trans (h.2.1 x hx),k.2.2.1.trans h.2.2.1,k.2.2.2.trans h.2.2.2⟩
theorem Low.of_below {w w':World} (h:Below w.heap.size w w'):Low w w':=⟨h.size,h.block,h.os,h.output⟩
theorem Low.re {w w':World} {τ:Nat→Question→Nat} {d:Nat} (h:Low (re τ d w) w'):Low w w':=h
theorem Low.sim {w w' wp:World} (h:Low wp w') (hp:Sim wp w):Low w w':=⟨by rw [← hp.heap];exact h.1,fun b hb=>by rw [← hp.heap] at hb ⊢;exact h.2.1 b hb,h.2.2.1.trans hp.outs.1,h.2.2.2.trans hp.outs.2⟩
theorem LeftW.low {w w':World} (h:LeftW w w'):Low w w':=⟨h.size,h.same,h.outs⟩
theorem Low.left {w w':World} (h:Low w w'):LeftW w w':=⟨h.2.1,h.1,h.2.2⟩
end Go.Proofs.Ytofacoojpgkbiaa
/-
 What the law calls upon a gate: call,however one goes on. No condition of its own.
-/
namespace Go.Proofs.Ytofacoojpgkbiaa
open Go.Conc Go.RowKit
open Go.ConcN (upd upd_ne upd_same)
set_option maxRecDepth 100000
def toldC (v e:Int):Ans:=if e=0 then ⟨true,v,[]⟩ else ⟨false,e,[]⟩
structure Api {S:Type} (md:Md (SM S)) (gv:Value) where
 J:Int→Int→(Int→Fu (SM S))→Fu (SM S)
 V:Int→(Int→Fu (SM S))→Fu (SM S)
 T:Int→Int→(Int→Fu (SM S))→Fu (SM S)
 E:Int→(Int→Int→Fu (SM S))→Fu (SM S)
 I:(List Int→Fu (SM S))→Fu (SM S)
 M:Int→(Int→Int→Fu (SM S))→Fu (SM S)
 Y:Int→Int→(Bool→Int→Fu (SM S))→Fu (SM S)
 join:∀ {p a:Int} {κ A w₀ c cs},zem a→md.End A w₀ c cs→(∀ e,md.F (κ e) A w₀ (G (c.finish (.int .i64 e)) cs))→md.F (J p a κ) A w₀ (G (Frame.enter Try.prog 73 #[gv,md.sv,.int .i64 p,.int .i64 a] .normal) (c::cs))
 leave:∀ {p:Int} {κ A w₀ c cs},md.End A w₀ c cs→(∀ e,md.F (κ e) A w₀ (G (c.finish (.int .i64 e)) cs))→md.F (V p κ) A w₀ (G (Frame.enter Try.prog 76 #[gv,md.sv,.int .i64 p] .normal) (c::cs))
 set:∀ {p a:Int} {κ A w₀ c cs},zem a→md.End A w₀ c cs→(∀ e,md.F (κ e) A w₀ (G (c.finish (.int .i64 e)) cs))→md.F (T p a κ) A w₀ (G (Frame.enter Try.prog 27 #[gv,md.sv,.int .i64 p,.int .i64 a] .normal) (c::cs))
 get:∀ {p:Int} {κ A w₀ c cs},md.End A w₀ c cs→(∀ v e,md.F (κ v e) A w₀ (G (c.finish (.tuple #[.int .i64 v,.int .i64 e])) cs))→md.F (E p κ) A w₀ (G (Frame.enter Try.prog 85 #[gv,md.sv,.int .i64 p] .normal) (c::cs))
 list:∀ {κ A w₀ c cs},md.End A w₀ c cs→(∀ l v A₁ w₁,Less md.i A w₀ A₁ w₁→RowTh md.i w₁.own w₁.heap v l→(∀ b,zd6 v l b→A₁ b∧¬ A b)→l.length≤64→md.F (κ l) A₁ w₁ (G (c.finish v) cs))→md.F (I κ) A w₀ (G (Frame.enter Try.prog 86 #[gv,md.sv] .normal) (c::cs))
 least:∀ {n:Int} {κ A w₀ c cs},zem n→md.End A w₀ c cs→(∀ v p,md.F (κ v p) A w₀ (G (c.finish (.tuple #[.int .i64 v,.int .i64 p])) cs))→md.F (M n κ) A w₀ (G (Frame.enter Try.prog 74 #[gv,md.sv,.int .i64 n] .normal) (c::cs))
 may:∀ {q z:Int} {κ A w₀ c cs},zem q→zem z→md.End A w₀ c cs→(∀ t p,md.F (κ t p) A w₀ (G (c.finish (.tuple #[.bool t,.int .i64 p])) cs))→md.F (Y q z κ) A w₀ (G (Frame.enter Try.prog 75 #[gv,md.sv,.int .i64 q,.int .i64 z] .normal) (c::cs))
section
variable {S:Type} {md:Md (SM S)} {gv:Value} {lo:Nat} {A:Nat→Prop} {w₀:W0 (SM S)} {c:Frame} {cs:List Frame} {κ:Ans→Fu (SM S)} {o:OpD} {y:md.β} {own1:Nat→Owner} {w1:World} {m:SM S} {N:Nat} {x:Nat→Value} {R:List Item}
end
end Go.Proofs.Ytofacoojpgkbiaa
/-
 call of the gate laws. No condition of its own.
-/
namespace Go.Proofs.Ytofacoojpgkbiaa
open Go.Conc Go.RowKit
open Go.ConcN (upd upd_ne upd_same)
set_option maxRecDepth 100000
def callA {S:Type} {md:Md (SM S)} {gv:Value} (P:Api md gv) (o:OpD) (κ:Ans→Fu (SM S)):Fu (SM S) :=
 if o.kind=1 then P.J o.a o.b (fun e=>κ (toldC 0 e))
 else if o.kind=2 then P.V o.a (fun e=>κ (toldC 0 e))
 else if o.kind=3 then P.T o.a o.b (fun e=>κ (toldC 0 e))
 else if o.kind=4 then P.E o.a (fun n e=>κ (toldC n e))
 else if o.kind=5 then P.I (fun l=>κ ⟨true,0,l⟩)
 else if o.kind=6 then P.M o.a (fun n p=>κ ⟨true,n,[p]⟩)
 else if o.kind=7 then P.Y o.a o.b (fun t p=>κ ⟨t,p,[]⟩)
 else κ ⟨false,0,[]⟩
section
variable {S:Type} {md:Md (SM S)} {gv:Value} {lo:Nat}
end
section
variable {Q:Nat→SM GateS→Prop} {s:GateS}
end
section
variable {Z:Machine→Trace→Prop} {gb:Nat} {s:GateS} {own:Nat→Owner} {w:World} {c:Frame} {cs:List Frame}
end
end Go.Proofs.Ytofacoojpgkbiaa
/-
 A nil gate,however one goes on. No condition of its own.
-/
namespace Go.Proofs.Ytofacoojpgkbiaa
open Go.Conc Go.RowKit
open Go.ConcN (upd upd_ne upd_same)
set_option maxRecDepth 100000
section
variable {S:Type} {md:Md (SM S)} {A:Nat→Prop} {w₀:W0 (SM S)} {c:Frame} {cs:List Frame}
end
end Go.Proofs.Ytofacoojpgkbiaa
/-
 A nil gate called by goroutine 0;Members;two gates beside each other. No condition of its own.
-/
namespace Go.Proofs.Ytofacoojpgkbiaa
open Go.Conc Go.RowKit
open Go.ConcN (upd upd_ne upd_same)
set_option maxRecDepth 100000
section
variable {Z:Machine→Trace→Prop} {w:World} {c:Frame} {cs:List Frame}
end
structure G2 (gz gw:Nat) (s:GateS) (oz ow:Nat→Owner) (w:World):Prop where
 z:GW gz s oz w
 w:GW gw s ow w
 dis:∀ b,oz b = .out∨ow b = .out
section
variable {gz gw:Nat} {s s':GateS} {oz ow oz' ow':Nat→Owner} {w w':World}
theorem GW.lt {gb:Nat} {own:Nat→Owner} (h:GW gb s own w) {b:Nat} (hb:own b ≠ .out):b < w.heap.size:=by
 rcases Nat.lt_or_ge b w.heap.size with z | z
 ·
  exact z
 ·
  exact absurd (h.new b z) hb
theorem GW.beside {g1 g2:Nat} {s1 s2:GateS} {o1 o2 o1':Nat→Owner} (h2:GW g2 s2 o2 w) (hd:∀ b,o1 b = .out∨o2 b = .out) (l:Left o1 o1' w w'):GW g2 s2 o2 w'∧∀ b,o1' b = .out∨o2 b = .out:=by
 refine ⟨h2.keep l.size fun b hb ho=>(l.same b hb ((hd b).resolve_right ho)).2,fun b => ?_⟩
 by_cases ho:o2 b = .out
 ·
  exact .inr ho
 ·
  exact .inl (l.same b (h2.lt ho) ((hd b).resolve_right ho)).1
theorem G2.sim (h:G2 gz gw s oz ow w) (e:w'.heap=w.heap):G2 gz gw s oz ow w' :=
 ⟨h.z.keep (by rw [e];exact Nat.le_refl _) (fun b _ _=>by rw [e]),h.w.keep (by rw [e];exact Nat.le_refl _) (fun b _ _=>by rw [e]),h.dis⟩
theorem G2.low (h:G2 gz gw s oz ow w) (hs:w.heap.size≤w'.heap.size) (hk:∀ b,b < w.heap.size→w'.heap[b]?=w.heap[b]?):G2 gz gw s oz ow w' :=
 ⟨h.z.keep hs fun b hb _=>hk b hb,h.w.keep hs fun b hb _=>hk b hb,h.dis⟩
end
end Go.Proofs.Ytofacoojpgkbiaa
