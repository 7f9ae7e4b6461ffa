/-
  A part of a proof. No condition of its own.
-/
import Derived.Test.YtofacoojpgkbiaaCalsP20
set_option linter.unusedVariables false
set_option maxHeartbeats 8000000
set_option linter.unusedSimpArgs false
namespace Go.Proofs.Ytofacoojpgkbiaa
open Go.Conc Go.RowKit
open Go.ConcN (upd upd_ne upd_same)
set_option maxRecDepth 100000
def zy9 (s:GateS) (p a:Int):Int×GateS:=if p < 0∨64≤p then (1,s) else (0,s.lay p a)
def zsj (s:GateS) (p:Int):Int×Int:=if p < 0∨64≤p then (0,1) else (s.num p.toNat,0)
def zfm (s:GateS) (p a:Int):Int×GateS:=if p < 0∨64≤p then (1,s) else if p∈s.mem then (7,s) else (0,zww s p a)
def zd0 (s:GateS) (p:Int):Int×GateS:=if p < 0∨64≤p then (1,s) else if p∈s.mem then (0,{ s with ser:=s.ser+1,mem:=s.mem.erase p }) else (6,s)
def zdn (num:Nat→Int):List Int→Int→Int→Int×Int
 | [],n,p=>(n,p)
 | q::l,n,p=>if p < 0∨num q.toNat < n then zdn num l (num q.toNat) q else zdn num l n p
def zsc (s:GateS) (q size:Int):Bool×Int:=if q < -9223372036854775808+max size 1∨q - max size 1≤(zdn s.num s.mem q (-1)).1 then (true,-1) else (false,(zdn s.num s.mem q (-1)).2)
theorem zin {Q:Nat→SM GateS→Prop} {an:Nat→List Ans} {s:GateS} {κ:Int→Int→Fu (SM GateS)}:∀ (l:List Int) (n p:Int) (x:Nat),(∀ q∈l,0≤q∧q < 64)→x+l.length≤1000→(∀ y,y≤1000→FF Q (κ (zdn s.num l n p).1 (zdn s.num l n p).2) y ⟨s,an⟩)→FF Q (zbo (idL GateS) κ l n p) x ⟨s,an⟩
 | [],n,p,x,hl,hx,h=>h x (by simp at hx;omega)
 | q::l,n,p,x,hl,hx,h=>by
  have hq:=hl q (List.mem_cons_self ..);simp only [yau] at hx;unfold zbo zkf;rw [if_neg (by omega)];refine zcw (by omega) ?_;show FF Q (if p < 0∨s.num q.toNat < n then zbo (idL GateS) κ l (s.num q.toNat) q else zbo (idL GateS) κ l n p) (x+1) ⟨s,an⟩;unfold zdn at h;by_cases hc:p < 0∨s.num q.toNat < n
  ·rw [if_pos hc] at h ⊢;exact zin l _ _ (x+1) (fun y hy=>hl y (List.mem_cons_of_mem _ hy)) (by omega) h
  ·rw [if_neg hc] at h ⊢;exact zin l _ _ (x+1) (fun y hy=>hl y (List.mem_cons_of_mem _ hy)) (by omega) h
section
variable {Z:Machine→Trace→Prop} {gb:Nat} {s:GateS} {own:Nat→Owner} {w:World} {c:Frame} {cs:List Frame}
theorem zpf {Q:Nat→SM GateS→Prop} {o:Os×Array (Nat×ByteArray)}:(zhr (zhs gb) 0 Z Q o).Ok:=znw (locG gb)
theorem zlg (G0:GW gb s own w) {p a:Int} (ha:zen a) (h:∀ own' w',GW gb (zfm s p a).2 own' w'→Left own own' w w'→RM Try.prog Z (G (c.finish (.int .i64 (zfm s p a).1)) cs) w') :
  RM Try.prog Z (G (Frame.enter Try.prog 73 #[gpv gb,.nilIface,.int .i64 p,.int .i64 a] .normal) (c::cs)) w:=by
 refine znv (ρ:=Int) (r0:=(zfm s p a).1) (V:=fun e => .int .i64 e) (Φ:=zeh (idL GateS) 1 p a) (s':=(zfm s p a).2) G0 (fun {Q o w₀ κ} hκ=>zkd (md:=zhr (zhs gb) 0 Z Q o) zpf zia ha 1 trivial fun e _=>hκ e) (fun {Q κ} hr=>?_) h;unfold zfm at hr;by_cases hb:p < 0∨64≤p
 ·unfold zeh;rw [if_pos hb] at hr ⊢;exact hr 0 (by omega)
 ·rw [if_neg hb] at hr;by_cases hm:p∈s.mem
  ·rw [if_pos hm] at hr;unfold zeh;rw [if_neg hb];unfold zez;refine zcw (by omega) ?_;show FF Q (zex (idL GateS) p a κ _ s.ser s.mem) 1 ⟨s,fun _=>[]⟩;unfold zex;rw [if_pos hm];exact hr 1 (by omega)
  ·rw [if_neg hm] at hr;exact zre (by omega) (by omega) hm (by omega) (hr 3 (by omega))
theorem zms (G0:GW gb s own w) {p:Int} (h:∀ own' w',GW gb (zd0 s p).2 own' w'→Left own own' w w'→RM Try.prog Z (G (c.finish (.int .i64 (zd0 s p).1)) cs) w') :
  RM Try.prog Z (G (Frame.enter Try.prog 76 #[gpv gb,.nilIface,.int .i64 p] .normal) (c::cs)) w:=by
 refine znv (ρ:=Int) (r0:=(zd0 s p).1) (V:=fun e => .int .i64 e) (Φ:=zde (idL GateS) 1 p) (s':=(zd0 s p).2) G0 (fun {Q o w₀ κ} hκ=>zle (md:=zhr (zhs gb) 0 Z Q o) zpf zia 1 trivial fun e _=>hκ e) (fun {Q κ} hr=>?_) h;unfold zd0 at hr;by_cases hb:p < 0∨64≤p
 ·unfold zde;rw [if_pos hb] at hr ⊢;exact hr 0 (by omega)
 ·rw [if_neg hb] at hr;unfold zde;rw [if_neg hb];unfold zeb;refine zcw (by omega) ?_;show FF Q (zdf (idL GateS) p κ _ s.ser s.mem) 1 ⟨s,fun _=>[]⟩;unfold zdf;by_cases hm:p∈s.mem
  ·rw [if_pos hm] at hr ⊢;refine zcw (by omega) ?_;unfold FF zgt;rw [if_pos (show ((idL GateS).get (SM.mk s fun _=>[]).st).ser=s.ser from rfl)]
   exact hr 2 (by omega)
  ·rw [if_neg hm] at hr ⊢;exact hr 1 (by omega)
theorem zuf (G0:GW gb s own w) {none:Int} (hn:zen none) (h:∀ own' w',GW gb s own' w'→Left own own' w w'→RM Try.prog Z (G (c.finish (.tuple #[.int .i64 (zdn s.num s.mem none (-1)).1,.int .i64 (zdn s.num s.mem none (-1)).2])) cs) w') :
  RM Try.prog Z (G (Frame.enter Try.prog 74 #[gpv gb,.nilIface,.int .i64 none] .normal) (c::cs)) w:=by
 refine znv (ρ:=Int×Int) (r0:=zdn s.num s.mem none (-1)) (V:=fun e => .tuple #[.int .i64 e.1,.int .i64 e.2]) (Φ:=fun κ=>zew (idL GateS) none fun n p=>κ (n,p)) (s':=s) G0 (fun {Q o w₀ κ} hκ=>zii (md:=zhr (zhs gb) 0 Z Q o) zpf zia hn trivial fun n p _ _=>hκ (n,p)) (fun {Q κ} hr=>?_) h;refine zcw (by omega) ?_;exact zin (κ:=fun n p=>κ (n,p)) s.mem none (-1) 1 G0.rep.mem.2 (by have:=zbj G0.rep.mem;omega) hr
theorem zsb (G0:GW gb s own w) {q size:Int} (hq:zen q) (hs:zen size) (h:∀ own' w',GW gb s own' w'→Left own own' w w'→RM Try.prog Z (G (c.finish (.tuple #[.bool (zsc s q size).1,.int .i64 (zsc s q size).2])) cs) w') :
  RM Try.prog Z (G (Frame.enter Try.prog 75 #[gpv gb,.nilIface,.int .i64 q,.int .i64 size] .normal) (c::cs)) w:=by
 refine znv (ρ:=Bool×Int) (r0:=zsc s q size) (V:=fun e => .tuple #[.bool e.1,.int .i64 e.2]) (Φ:=fun κ=>zt1 (idL GateS) q size fun t p=>κ (t,p)) (s':=s) G0 (fun {Q o w₀ κ} hκ=>zq4 (md:=zhr (zhs gb) 0 Z Q o) zpf zia hq hs trivial fun t p _=>hκ (t,p)) (fun {Q κ} hr=>?_) h;refine zcw (by omega) ?_;refine zin s.mem q (-1) 1 G0.rep.mem.2 (by have:=zbj G0.rep.mem;omega) fun y hy=>?_;unfold zsc at hr;split
 ·rename_i hc;rw [if_pos hc] at hr;exact hr y hy
 ·rename_i hc;rw [if_neg hc] at hr;exact hr y hy
end
def fxT:Tr:=trG [] [[⟨1,0,5,0⟩],[⟨1,1,6,0⟩]] [0,1,0,1,0,1] 99
theorem fx_ord:fxT.ord.length=9:=by decide +kernel
theorem fx_st:fxT.st.length=67∧fxT.st[0]?=some 2∧fxT.st[1]?=some 0∧fxT.st[2]?=some 1∧fxT.st[3]?=some 5∧fxT.st[4]?=some 6:=by decide +kernel
theorem fx_an:fxT.ans.length=2:=by decide +kernel
def sG0:GateS:=⟨0,[],fun _ => -1⟩
def sG1:GateS:=(zfm sG0 3 10).2
def sG2:GateS:=(zfm sG1 1 7).2
def sG3:GateS:=(zfm sG2 3 0).2
def sG4:GateS:=(zd0 sG3 3).2
theorem zz0:(zfm sG0 3 10).1=0∧(zfm sG1 1 7).1=0∧(zfm sG2 3 0).1=7∧zdn sG3.num sG3.mem 0 (-1)=(7,1)∧(zsc sG3 15 8).1=true∧zsc sG3 16 8=(false,1)∧(zd0 sG3 3).1=0∧(zd0 sG4 3).1=6:=by decide +kernel
structure LeftW (w w':World):Prop where
 same:∀ b,b < w.heap.size→w'.heap[b]?=w.heap[b]?
 size:w.heap.size≤w'.heap.size
 outs:w'.os=w.os∧w'.output=w.output
theorem LeftW.trans {w1 w2 w3:World} (h1:LeftW w1 w2) (h2:LeftW w2 w3):LeftW w1 w3:=⟨fun b hb=>(h2.same b (by have:=h1.size;omega)).trans (h1.same b hb),Nat.le_trans h1.size h2.size,h2.outs.1.trans h1.outs.1,h2.outs.2.trans h1.outs.2⟩
theorem LeftW.of_sim {w w':World} (h:w'.heap=w.heap) (ho:w'.os=w.os∧w'.output=w.output):LeftW w w':=⟨fun b _=>by rw [h],by rw [h];exact yax _,ho⟩
theorem LeftW.alloc {w w':World} (h:LeftW w w') (o:Obj):LeftW w (w'.alloc o):=⟨fun b hb=>(Below.heap_alloc _ _ _ (by have:=h.size;omega)).trans (h.same b hb),by have:=h.size;simp;omega,h.outs⟩
theorem LeftW.refl {w:World}:LeftW w w:=⟨fun _ _=>rfl,yax _,rfl,rfl⟩
theorem LeftW.sim {w w1 w2:World} (h:LeftW w w1) (h2:Sim w2 w1):LeftW w w2:=h.trans (.of_sim h2.heap h2.outs)
theorem NewG.gate {w w1:World} {N:Nat} (h:NewG N 64 w w1) (hN:w.heap.size=N):GW N sG0 (fun b=>if b=N then .sh else .out) w1∧LeftW w w1:=by
 obtain ⟨hb,hs,c,c1,c2,c3,c4⟩:=h;have hno:∀ b t,(if b=N then Owner.sh else .out) ≠ .tag t:=fun b t=>by split<;>simp
 refine ⟨⟨⟨if_pos rfl,⟨none,c,c1,c2,c3,fun j hj=>by rw [c4 j hj,if_pos hj];rfl,.inl ⟨rfl,rfl,rfl⟩⟩,fun j _=>by constructor<;>simp [sG0],⟨List.nodup_nil,fun x hx=>by cases hx⟩,fun b b' t q _=>absurd q (hno b _),fun b t q=>absurd q (hno b _)⟩,fun b hb=>if_neg (by omega),fun b hb=>?_⟩,⟨fun b hb'=>hb.block b (by omega),by omega,hb.os,hb.output⟩⟩;by_cases h:b=N
 ·exact .inl h
 ·rw [if_neg h] at hb;exact absurd rfl hb
structure GL (w:World) (gb:Nat) (s:GateS) (own:Nat→Owner) (w1:World):Prop where
 g:GW gb s own w1
 l:LeftW w w1
 o:∀ b,b < w.heap.size→own b = .out
theorem GL.step {w w1 w2:World} {gb:Nat} {s s':GateS} {own own':Nat→Owner} (h:GL w gb s own w1) (g:GW gb s' own' w2) (l:Left own own' w1 w2):GL w gb s' own' w2 :=
 ⟨g,⟨fun b hb=>(l.same b (by have:=h.l.size;omega) (h.o b hb)).2.trans (h.l.same b hb),Nat.le_trans h.l.size l.size,l.outs.1.trans h.l.outs.1,l.outs.2.trans h.l.outs.2⟩,fun b hb=>(l.same b (by have:=h.l.size;omega) (h.o b hb)).1⟩
theorem GL.sim {w w1 w2:World} {gb:Nat} {s:GateS} {own:Nat→Owner} (h:GL w gb s own w1) (e:w2.heap=w1.heap) (ho:w2.os=w1.os∧w2.output=w1.output):GL w gb s own w2 :=
 ⟨h.g.keep (by rw [e];exact yax _) (fun b _ _=>by rw [e]),h.l.trans (.of_sim e ho),h.o⟩
theorem alloc4 {w W:World} {a b c d:Obj} {N:Nat} (hN:w.heap.size=N) (h:W.heap=((((w.alloc a).alloc b).alloc c).alloc d).heap):W.heap[N]?=some a∧W.heap[N+1]?=some b∧W.heap[N+1+1]?=some c∧W.heap[N+1+1+1]?=some d:=by
 subst hN;have s1:(w.alloc a).heap.size=w.heap.size+1:=by simp
 have s2:((w.alloc a).alloc b).heap.size=w.heap.size+1+1:=by simp
 have s3:(((w.alloc a).alloc b).alloc c).heap.size=w.heap.size+1+1+1:=by simp
 rw [h];refine ⟨?_,?_,?_,?_⟩
 ·rw [Below.heap_alloc _ _ _ (by omega),Below.heap_alloc _ _ _ (by omega),Below.heap_alloc _ _ _ (by omega)];exact heap_alloc_new _ _
 ·rw [Below.heap_alloc _ _ _ (by omega),Below.heap_alloc _ _ _ (by omega),← s1];exact heap_alloc_new _ _
 ·rw [Below.heap_alloc _ _ _ (by omega),← s2];exact heap_alloc_new _ _
 ·rw [← s3];exact heap_alloc_new _ _
theorem fx_in {w:World} {N:Nat} (m1:w.heap[N]?=some (.cells #[.int .i64 1,.int .i64 0,.int .i64 5,.int .i64 0] 45 (0,0))) (m2:w.heap[N+1]?=some (.cells #[.int .i64 1,.int .i64 1,.int .i64 6,.int .i64 0] 45 (0,0)))
  (m3:w.heap[N+1+1]?=some (.cells #[.slice (some ⟨N,0,none⟩) 1 1,.slice (some ⟨N+1,0,none⟩) 1 1] 34 (0,0))) (m4:w.heap[N+1+1+1]?=some (.cells #[.int .i64 0,.int .i64 1,.int .i64 0,.int .i64 1,.int .i64 0,.int .i64 1] 3 (0,0))) :
  ThrIn w (.slice (some ⟨N+1+1,0,none⟩) 2 2) [[⟨1,0,5,0⟩],[⟨1,1,6,0⟩]]∧IntsIn w (.slice (some ⟨N+1+1+1,0,none⟩) 6 6) [0,1,0,1,0,1]:=by
 have op:∀ {b:Nat} {k a x c:Int},w.heap[b]?=some (.cells #[.int .i64 k,.int .i64 a,.int .i64 x,.int .i64 c] 45 (0,0))→(OpD.mk k a x c).Ok→OpsIn w (some ⟨b,0,none⟩) 1 1 [⟨k,a,x,c⟩]:=fun {b k a x c} hb ho=>by
  refine ⟨fun o h=>by simp at h;subst h;exact ho,rfl,yax _,fun _=>⟨b,0,rfl,fun j p hj=>?_⟩⟩;rcases j with _|j
  ·simp at hj;subst hj;exact ⟨zac hb 0,zac hb 1,zac hb 2,zac hb 3⟩
  ·simp at hj
 refine ⟨⟨_,2,rfl,fun i=>if i=0 then some ⟨N,0,none⟩ else some ⟨N+1,0,none⟩,fun _=>1,fun _=>1,fun _=>⟨N+1+1,0,rfl,fun i L hi=>?_⟩,fun i L hi=>?_⟩,fun x hx=>?_,_,6,rfl,yax _,fun _=>⟨N+1+1+1,0,rfl,fun j x hj=>?_⟩⟩
 ·rcases i with _|_|i
  ·exact zac m3 0
  ·exact zac m3 1
  ·simp at hi
 ·rcases i with _|_|i
  ·simp at hi;subst hi;exact op m1 (by constructor<;>constructor<;>decide)
  ·simp at hi;subst hi;exact op m2 (by constructor<;>constructor<;>decide)
  ·simp at hi
 ·have:x=0∨x=1:=by simp at hx;omega
  rcases this with rfl|rfl<;>constructor<;>decide
 ·rw [Nat.zero_add,zac m4];rcases j with _|_|_|_|_|_|j<;>first|(simp at hj;subst hj;rfl)|(simp at hj)
section
variable {Z:Machine→Trace→Prop} {c:Frame} {cs:List Frame}
theorem zuh {w:World} (h:∀ w',LeftW w w'→RM Try.prog Z (G (c.finish (.bool true)) cs) w'):RM Try.prog Z (G (Frame.enter Try.prog 16 #[] .normal) (c::cs)) w:=by
 rw [enter_at _ Try.func16 rfl];simp only [Try.ntmps16,yan,yau,yav,Nat.reduceAdd,Nat.reduceSub,yao,
   yap,yaq,yar,yas,yat]
 replace h:=yay h;have L:LeftW w w := .refl;refine zae rm_xc fun R0 hR0=>?_;refine zby zlz (zab zah (by kernel_rfl)) rfl (zaa Try.func16) rfl fun wp hp=>?_;replace hp:=yay hp
 go_wp2_with fail
 refine fun w1 h1=>?_;replace L:=L.trans ((LeftW.of_sim hp.out.heap hp.out.outs).sim h1);have e1:w1.heap=_:=h1.heap.trans hp.out.heap;clear h1 hp wp;obtain rfl:=hR0.out;clear hR0;clear e1;refine zae rm_xc fun R0 hR0=>?_;refine zfl 6 (by decide) (by decide) (zai (by kernel_rfl)) fun wp hp=>?_;simp only [yad,yae];obtain ⟨N,hN⟩:∃ N,wp.heap.size=N:=⟨_,rfl⟩;replace hN:=yay hN;replace hp:=yay hp
 go_wp2_with fail
 refine za4 rfl fun w2 h2=>?_;replace L:=L.trans ((((((LeftW.of_sim hp.out.heap hp.out.outs).alloc _).alloc _).alloc _).alloc _).sim h2);obtain ⟨m1,m2,m3,m4⟩:=alloc4 hN.out h2.heap;have hNN:=hN.out;rw [hNN] at m3 ⊢;clear h2 hp hNN hN wp;obtain ⟨hT,hS⟩:=fx_in m1 m2 m3 m4;clear m1 m2 m3 m4;refine zat rm_xc rfl rfl (by decide) rfl Try.func18 (by kernel_rfl) (by kernel_rfl) ?_;walk_nrm;refine zv9 (l:=[]) (LL:=[[⟨1,0,5,0⟩],[⟨1,1,6,0⟩]]) (sch:=[0,1,0,1,0,1]) (most:=99) ⟨fun x hx=>(by cases hx),none,0,rfl,yax _,fun h=>absurd rfl h⟩ hT (by decide) (by decide) hS (by decide) (by decide) fun tv w3 hT3 k3 s3 o3=>?_;replace L:=L.trans ⟨k3,s3,o3⟩
 change TrIn w3 tv fxT at hT3
 obtain ⟨va,vo,vs,rfl,⟨aa,ac,rfl,_⟩,⟨oa,oc,rfl,_⟩,⟨sa,sc,rfl,hst⟩⟩:=hT3;rw [fx_ord,fx_an,fx_st.1];obtain ⟨_,q0,q1,q2,q3,q4⟩:=fx_st;obtain ⟨sb,so,rfl,hc⟩:=hst (by intro z;rw [z] at q0;cases q0);have c0:=hc 0 _ q0;have c1:=hc 1 _ q1;have c2:=hc 2 _ q2;have c3:=hc 3 _ q3;have c4:=hc 4 _ q4;have hsb:=World.block_lt_of_cell? w3 _ c0;clear hc hst q0 q1 q2 q3 q4 k3 s3 o3 hT hS;generalize fxT.stuck=stk;rw [Frame.finish_at];walk_nrm;refine zc3 7 2 (by decide) (by decide) (zai (by kernel_rfl)) fun wp hp=>?_;simp only [yaf,yag,yad,yae];obtain ⟨K,hK⟩:∃ K,wp.heap.size=K:=⟨_,rfl⟩;replace hK:=yay hK;replace hp:=yay hp
 go_wp2_with fail
 refine za4 rfl fun w4 h4=>?_;replace L:=L.trans (((LeftW.of_sim hp.out.heap hp.out.outs).alloc _).sim h4);have e4:w4.heap[K]?=some (.cells #[.slice aa 2 ac,.slice oa 9 oc,.slice (some ⟨sb,so,none⟩) 67 sc,.bool stk] 31 (0,0)):=by rw [h4.heap,← hK.out];exact heap_alloc_new _ _
 have k4:w4.heap[sb]?=w3.heap[sb]?:=by
  have hb:sb < w3.heap.size:=hsb;rw [h4.heap,Below.heap_alloc _ _ _ (by rw [hp.out.heap];exact hb),hp.out.heap]
 have hKK:=hK.out;rw [hKK];clear h4 hp hKK hK hsb wp;refine zad rm_xc ?_;obtain rfl:=hR0.out;clear hR0;refine zae rm_xc fun R0 hR0=>?_;refine zae rm_xc fun R1 hR1=>?_;refine zby zlz (zab zah (by kernel_rfl)) rfl (zaa Try.func16) rfl fun wp hp=>?_;have g4:wp.heap[K]?=_:=(congrArg (·[K]?) hp.heap).trans e4;have d0:=zac g4 0;have d1:=zac g4 1;have d2:=zac g4 2;have cc:∀ i v,w3.cell? ⟨sb,so+i,none⟩=some v→wp.cell? ⟨sb,so+i,none⟩=some v:=fun i v q=>(World.cell?_of_block (w:=w3) (by show wp.heap[sb]?=w3.heap[sb]?;rw [hp.heap,k4])).trans q;replace c0:=cc 0 _ c0;replace c1:=cc 1 _ c1;replace c2:=cc 2 _ c2;replace c3:=cc 3 _ c3;replace c4:=cc 4 _ c4;rw [Nat.add_zero] at c0;simp only [yac,yaa,yab] at d0 d1 d2;replace g4:=yay g4;clear cc;replace hp:=yay hp
 go_wp2_with fail
 refine fun w5 h5=>?_;replace L:=L.trans ((LeftW.of_sim hp.out.heap hp.out.outs).sim h5);have e5:w5.heap=_:=h5.heap.trans hp.out.heap;clear c0 c1 c2 c3 c4 d0 d1 d2 g4 h5 hp wp;clear e5 e4 k4;obtain rfl:=hR1.out;clear hR1;refine zam rm_xc (t:=false) rfl ?_;refine zbm rm_xc ?_;obtain rfl:=hR0.out;clear hR0;refine zae rm_xc fun R0 hR0=>?_;refine zby zlz (zab zah (by kernel_rfl)) rfl (zaa Try.func16) rfl fun wp hp=>?_;have hw:=zkb wp;obtain ⟨M,hM⟩:∃ M,wp.heap.size=M:=⟨_,rfl⟩;rw [hM] at hw;replace hM:=yay hM;unfold gpv at hw;replace hp:=yay hp
 go_wp2_with (go_at_call 20;refine hw.mono ?_;rintro e w' ⟨rfl,hG⟩;replace hG:=yay hG)
 refine fun w6 h6=>?_;obtain ⟨G1,L1⟩:=hG.out.gate hM.out;have hMw:w.heap.size≤M:=by rw [← hM.out,hp.out.heap];exact L.size
 have I:GL w M sG0 (fun b=>if b=M then .sh else .out) w6:=(GL.mk G1 ((L.trans (.of_sim hp.out.heap hp.out.outs)).trans L1) fun b hb=>if_neg (by omega)).sim h6.heap h6.outs;clear h6 hG hw hM hp G1 L1 L hMw wp;generalize (fun b=>if b=M then Owner.sh else .out)=own0 at I;obtain ⟨x1,x2,x3,x4,x5,x6,x7,x8⟩:=zz0;obtain rfl:=hR0.out;clear hR0;refine zae rm_xc fun R0 hR0=>?_;refine zae rm_xc fun R1 hR1=>?_;refine zfl 4 (by decide) (by decide) (zai (by kernel_rfl)) fun wp hp=>?_;simp only [yad,yae];replace hp:=yay hp
 go_wp2_with fail
 refine za4 rfl fun w7 h7=>?_;replace I:=I.sim (h7.heap.trans hp.out.heap) ⟨h7.outs.1.trans hp.out.outs.1,h7.outs.2.trans hp.out.outs.2⟩;clear h7 hp wp;unfold gpv at *;refine zat rm_xc rfl rfl (by decide) rfl Try.func73 (by kernel_rfl) (by kernel_rfl) ?_;walk_nrm;rw [show Value.pointer (some ⟨M,0,none⟩)=gpv M from rfl]
 refine zlg I.g (by constructor<;>decide) fun own8 w8 Ga La=>?_;replace I:GL w M (sG1) own8 w8:=I.step Ga La;clear Ga La;rw [x1];rw [Frame.finish_at];walk_nrm;unfold gpv;refine zc3 5 4 (by decide) (by decide) (zai (by kernel_rfl)) fun wp hp=>?_;simp only [yaf,yag,yad,yae];replace hp:=yay hp
 go_wp2_with fail
 refine za4 rfl fun w9 h9=>?_;replace I:=I.sim (h9.heap.trans hp.out.heap) ⟨h9.outs.1.trans hp.out.outs.1,h9.outs.2.trans hp.out.outs.2⟩;clear h9 hp wp;refine zat rm_xc rfl rfl (by decide) rfl Try.func73 (by kernel_rfl) (by kernel_rfl) ?_;walk_nrm;rw [show Value.pointer (some ⟨M,0,none⟩)=gpv M from rfl]
 refine zlg I.g (by constructor<;>decide) fun own10 w10 Ga La=>?_;replace I:GL w M (sG2) own10 w10:=I.step Ga La;clear Ga La;rw [x2];rw [Frame.finish_at];walk_nrm;unfold gpv;refine zc3 10 4 (by decide) (by decide) (zai (by kernel_rfl)) fun wp hp=>?_;simp only [yaf,yag,yad,yae];replace hp:=yay hp
 go_wp2_with fail
 refine za4 rfl fun w11 h11=>?_;replace I:=I.sim (h11.heap.trans hp.out.heap) ⟨h11.outs.1.trans hp.out.outs.1,h11.outs.2.trans hp.out.outs.2⟩;clear h11 hp wp;refine zat rm_xc rfl rfl (by decide) rfl Try.func73 (by kernel_rfl) (by kernel_rfl) ?_;walk_nrm;rw [show Value.pointer (some ⟨M,0,none⟩)=gpv M from rfl]
 refine zlg I.g (by constructor<;>decide) fun own12 w12 Ga La=>?_;replace I:GL w M (sG3) own12 w12:=I.step Ga La;clear Ga La;rw [x3];rw [Frame.finish_at];walk_nrm;unfold gpv;refine zc3 15 2 (by decide) (by decide) (zai (by kernel_rfl)) fun wp hp=>?_;simp only [yaf,yag,yad,yae];replace hp:=yay hp
 go_wp2_with fail
 refine za4 rfl fun w13 h13=>?_;replace I:=I.sim (h13.heap.trans hp.out.heap) ⟨h13.outs.1.trans hp.out.outs.1,h13.outs.2.trans hp.out.outs.2⟩;clear h13 hp wp;refine zad rm_xc ?_;obtain rfl:=hR1.out;clear hR1;refine zam rm_xc (t:=false) rfl ?_;refine zbm rm_xc ?_;obtain rfl:=hR0.out;clear hR0;refine zae rm_xc fun R0 hR0=>?_;refine zfl 1 (by decide) (by decide) (zai (by kernel_rfl)) fun wp hp=>?_;simp only [yad,yae];replace hp:=yay hp
 go_wp2_with fail
 refine za4 rfl fun w14 h14=>?_;replace I:=I.sim (h14.heap.trans hp.out.heap) ⟨h14.outs.1.trans hp.out.outs.1,h14.outs.2.trans hp.out.outs.2⟩;clear h14 hp wp;refine zat rm_xc rfl rfl (by decide) rfl Try.func74 (by kernel_rfl) (by kernel_rfl) ?_;walk_nrm;rw [show Value.pointer (some ⟨M,0,none⟩)=gpv M from rfl]
 refine zuf I.g (by constructor<;>decide) fun own15 w15 Ga La=>?_;replace I:GL w M (sG3) own15 w15:=I.step Ga La;clear Ga La;rw [x4];rw [Frame.finish_at];walk_nrm;unfold gpv;refine zc3 2 5 (by decide) (by decide) (zai (by kernel_rfl)) fun wp hp=>?_;simp only [yaf,yag,yad,yae];replace hp:=yay hp
 go_wp2_with fail
 refine za4 rfl fun w16 h16=>?_;replace I:=I.sim (h16.heap.trans hp.out.heap) ⟨h16.outs.1.trans hp.out.outs.1,h16.outs.2.trans hp.out.outs.2⟩;clear h16 hp wp;refine zad rm_xc ?_;obtain rfl:=hR0.out;clear hR0;refine zae rm_xc fun R0 hR0=>?_;refine zfl 1 (by decide) (by decide) (zai (by kernel_rfl)) fun wp hp=>?_;simp only [yad,yae];replace hp:=yay hp
 go_wp2_with fail
 refine za4 rfl fun w17 h17=>?_;replace I:=I.sim (h17.heap.trans hp.out.heap) ⟨h17.outs.1.trans hp.out.outs.1,h17.outs.2.trans hp.out.outs.2⟩;clear h17 hp wp;refine zat rm_xc rfl rfl (by decide) rfl Try.func75 (by kernel_rfl) (by kernel_rfl) ?_;walk_nrm;rw [show Value.pointer (some ⟨M,0,none⟩)=gpv M from rfl]
 refine zsb I.g (by constructor<;>decide) (by constructor<;>decide) fun own18 w18 Ga La=>?_;replace I:GL w M (sG3) own18 w18:=I.step Ga La;clear Ga La;rw [x5];rw [Frame.finish_at];walk_nrm;unfold gpv;refine zc3 2 5 (by decide) (by decide) (zai (by kernel_rfl)) fun wp hp=>?_;simp only [yaf,yag,yad,yae];replace hp:=yay hp
 go_wp2_with fail
 refine za4 rfl fun w19 h19=>?_;replace I:=I.sim (h19.heap.trans hp.out.heap) ⟨h19.outs.1.trans hp.out.outs.1,h19.outs.2.trans hp.out.outs.2⟩;clear h19 hp wp;refine zad rm_xc ?_;obtain rfl:=hR0.out;clear hR0;refine zae rm_xc fun R0 hR0=>?_;refine zfl 1 (by decide) (by decide) (zai (by kernel_rfl)) fun wp hp=>?_;simp only [yad,yae];replace hp:=yay hp
 go_wp2_with fail
 refine za4 rfl fun w20 h20=>?_;replace I:=I.sim (h20.heap.trans hp.out.heap) ⟨h20.outs.1.trans hp.out.outs.1,h20.outs.2.trans hp.out.outs.2⟩;clear h20 hp wp;refine zat rm_xc rfl rfl (by decide) rfl Try.func75 (by kernel_rfl) (by kernel_rfl) ?_;walk_nrm;rw [show Value.pointer (some ⟨M,0,none⟩)=gpv M from rfl]
 refine zsb I.g (by constructor<;>decide) (by constructor<;>decide) fun own21 w21 Ga La=>?_;replace I:GL w M (sG3) own21 w21:=I.step Ga La;clear Ga La;rw [x6];rw [Frame.finish_at];walk_nrm;unfold gpv;refine zc3 2 5 (by decide) (by decide) (zai (by kernel_rfl)) fun wp hp=>?_;simp only [yaf,yag,yad,yae];replace hp:=yay hp
 go_wp2_with fail
 refine za4 rfl fun w22 h22=>?_;replace I:=I.sim (h22.heap.trans hp.out.heap) ⟨h22.outs.1.trans hp.out.outs.1,h22.outs.2.trans hp.out.outs.2⟩;clear h22 hp wp;refine zad rm_xc ?_;obtain rfl:=hR0.out;clear hR0;refine zae rm_xc fun R0 hR0=>?_;refine zfl 19 (by decide) (by decide) (zai (by kernel_rfl)) fun wp hp=>?_;simp only [yad,yae];replace hp:=yay hp
 go_wp2_with fail
 refine za4 rfl fun w23 h23=>?_;replace I:=I.sim (h23.heap.trans hp.out.heap) ⟨h23.outs.1.trans hp.out.outs.1,h23.outs.2.trans hp.out.outs.2⟩;clear h23 hp wp;refine zat rm_xc rfl rfl (by decide) rfl Try.func76 (by kernel_rfl) (by kernel_rfl) ?_;walk_nrm;rw [show Value.pointer (some ⟨M,0,none⟩)=gpv M from rfl]
 refine zms I.g  fun own24 w24 Ga La=>?_;replace I:GL w M (sG4) own24 w24:=I.step Ga La;clear Ga La;rw [x7];rw [Frame.finish_at];walk_nrm;unfold gpv;refine zc3 20 4 (by decide) (by decide) (zai (by kernel_rfl)) fun wp hp=>?_;simp only [yaf,yag,yad,yae];replace hp:=yay hp
 go_wp2_with fail
 refine za4 rfl fun w25 h25=>?_;replace I:=I.sim (h25.heap.trans hp.out.heap) ⟨h25.outs.1.trans hp.out.outs.1,h25.outs.2.trans hp.out.outs.2⟩;clear h25 hp wp;refine zat rm_xc rfl rfl (by decide) rfl Try.func76 (by kernel_rfl) (by kernel_rfl) ?_;walk_nrm;rw [show Value.pointer (some ⟨M,0,none⟩)=gpv M from rfl]
 refine zms I.g  fun own26 w26 Ga La=>?_;replace I:GL w M ((zd0 sG4 3).2) own26 w26:=I.step Ga La;clear Ga La;rw [x8];rw [Frame.finish_at];walk_nrm;unfold gpv;refine zc3 25 3 (by decide) (by decide) (zai (by kernel_rfl)) fun wp hp=>?_;simp only [yaf,yag,yad,yae];replace hp:=yay hp
 go_wp2_with fail
 refine za4 rfl fun w27 h27=>?_;replace I:=I.sim (h27.heap.trans hp.out.heap) ⟨h27.outs.1.trans hp.out.outs.1,h27.outs.2.trans hp.out.outs.2⟩;clear h27 hp wp;refine zad rm_xc ?_;obtain rfl:=hR0.out;clear hR0;refine zc0 rm_xc ?_;refine za2 rm_xc (zaa Try.func16) (zbt _) (by rw [zcy];exact ⟨rfl,rfl,rfl,_,Try.func16,results_tmp rfl _ _ _⟩) ?_;exact h.out _ I.l
end
noncomputable def c21:Code:=(Try.f21.body).getD .skip
def A21 (x:Nat→Value):Act:=⟨#[x 0,x 1,x 2,x 3,x 4,x 5,x 6,x 7,x 8,x 9,x 10,x 11,x 12,x 13,x 14,x 15,x 16,x 17,x 18,x 19,x 20,x 21,x 22,x 23,x 24,x 25,x 26,x 27,x 28,x 29,x 30,x 31,x 32,x 33,x 34,x 35,x 36,x 37,x 38,x 39,x 40,x 41,x 42,x 43,x 44,x 45,x 46,x 47,x 48,x 49,x 50,x 51,x 52,x 53,x 54,x 55,x 56,x 57,x 58,x 59,x 60,x 61,x 62,x 63,x 64,x 65,x 66,x 67,x 68,x 69,x 70,x 71,x 72,x 73,x 74,x 75,x 76,x 77,x 78,x 79,x 80,x 81,x 82,x 83,x 84,x 85,x 86,x 87],[]⟩
theorem zlw (l:Array Value) (hl:l.size=88):(⟨l,[]⟩:Act)=A21 fun j=>l.getD j undef:=by
 have e:∀ x:Nat→Value,(A21 x).tmps=((List.range 88).map x).toArray:=fun x=>rfl;have h1:l=(A21 fun j=>l.getD j undef).tmps:=by
  rw [e];apply Array.ext_getElem?;intro i;by_cases h:i < 88
  ·have h':i < l.size:=by omega
   simp [h,h',List.getElem?_range]
  ·have h':¬ i < l.size:=by omega
   rw [Array.getElem?_eq_none (by omega),Array.getElem?_eq_none (by simp;omega)]
 exact congrArg (Act.mk · []) h1
def zbq (v e:Int):Ans:=if e=0 then ⟨true,v,[]⟩ else ⟨false,e,[]⟩
theorem zgw (v e:Int) (w:World):Calls Try.prog 84 #[.int .i64 v,.int .i64 e] w fun x w'=>x = .returned (zdp (zbq v e) (.slice none 0 0))∧w.alloc (zxp (zbq v e) (.slice none 0 0))=w':=by
 by_cases he:e=0
 ·have h1:(e != 0)=false:=by simp [he]
  have ht:zbq v e=⟨true,v,[]⟩:=if_pos he;rw [ht];clear he ht;go_enter Try.func84,Try.ntmps84
  go_wp2_with fail
  refine bodyPost_ret (results_cell_row rfl _ _ w.heap.size 42 #[.bool true,.int .i64 v,.slice none 0 0] (0,0) _ rfl (heap_alloc_new _ _) Try.underlying42 (by rfl) (by rw [zsf];rfl)) rfl ?_;exact ⟨rfl,rfl⟩
 ·have h1:(e != 0)=true:=by simpa using he
  have ht:zbq v e=⟨false,e,[]⟩:=if_neg he;rw [ht];clear he ht;go_enter Try.func84,Try.ntmps84
  go_wp2_with fail
  refine bodyPost_ret (results_cell_row rfl _ _ w.heap.size 42 #[.bool false,.int .i64 e,.slice none 0 0] (0,0) _ rfl (heap_alloc_new _ _) Try.underlying42 (by rfl) (by rw [zsf];rfl)) rfl ?_;exact ⟨rfl,rfl⟩
theorem zoo {v:Value} {l:List Int} (w:World) (hv:IntsAt w v l) (hl:l.length≤1000000):Calls Try.prog 24 #[v] w fun e w'=>∃ v',e = .returned v'∧w'.ownsRow w.heap.size 2 1 v' l.length (zaw l)∧Below w.heap.size w w':=by
 obtain ⟨i1,hi1,hz1,hz11,hz12⟩:=info_parts zij;obtain ⟨va,vc,rfl,hcell⟩:=hv;obtain ⟨n,hn⟩:∃ n,l.length=n:=⟨_,rfl⟩;rw [hn] at hl ⊢;replace hcell:=yay hcell;replace hn:=yay hn;generalize hN:w.heap.size=N at *;replace hN:=yay hN;go_enter Try.func24,Try.ntmps24
 go_wp2_with fail
 go_loopw [3,4] (fun va' iv wr=>∃ (j:Nat),j≤n∧iv = .int .i64 j∧Hid (wr.ownsRow N 2 1 va' j (zaw (l.take j)))∧Hid (Below N w wr)) (fun _ iv _=>n - (intOf iv).toNat)
 case atStart=>exact ⟨0,by omega,rfl,yay (World.ownsRow_nil _ _ _ _),yay (Below.refl _ _)⟩
 case round =>
  obtain ⟨j,hj,rfl,HS,HB⟩:=hrel;obtain ⟨vp,vcc,rfl⟩:=zbg HS.out;by_cases hlt2:j < n
  ·have hlt':(j:Int) < (n:Int):=by omega
   have hj0:(0:Int)≤(j:Int):=by omega
   obtain ⟨x,hx⟩:∃ x,l[j]?=some x:=⟨_,List.getElem?_eq_getElem (by rw [hn.out];exact hlt2)⟩;obtain ⟨b,off,hva,hcl⟩:=hcell.out (by intro z;rw [z] at hx;simp at hx);have q0:=hcl j x hx;have hb:=World.block_lt_of_cell? w _ q0;have q1:wr.cell? ⟨b,off+j,none⟩=some (.int .i64 x):=(World.cell?_of_block (w:=w) (HB.out.block _ (by rw [← hN.out];exact hb))).trans q0;have hsz:=yay (hN.out▸HB.out.size);have HSx:=yay (zfw wr x 2);have HO1:=yay (HS.out.alloc (.cells #[.int .i64 x] 2));have HBa:=yay (HB.out.alloc (by have:=hsz.out;omega) (.cells #[.int .i64 x] 2));have htk:l.take (j+1)=l.take j++[x]:=by rw [List.take_add_one,hx];rfl
   replace htk:=yay htk;have e1:IntKind.i64.wrap ((j:Int)+1)=((j+1:Nat):Int):=by rw [IntKind.wrap_i64];omega
   clear hx hb hcl q0;subst hva
   go_wp2_with (at_builtin;(refine zas rfl (.tmp 11) (.tmp 16) 22 rfl N 2 i1 _ _ Try.underlying22 hi1 hz1 hz11 hz12 rfl (.slice vp j vcc) j _ rfl HO1.out 1 _ HSx.out ?l2 ?b2 ?n2 ?_);(case l2=>(unfold maxLen;omega));(case b2=>omega);(case n2=>(have h1:=hsz.out;simp;omega));intro v' w1 ha;obtain ⟨ho,hg,hsh⟩:=ha;have HH:=yay ho;have HB2:=yay (zbu HO1.out HBa.out (by have h1:=hsz.out;simp;omega) hg);clear ho hg hsh)
   refine ⟨⟨j+1,by omega,by rw [Int.natCast_add];rfl,?_,HB2⟩,by simp [intOf];omega⟩;rw [htk.out,zd4];exact HH
  ·have hlt':¬ (j:Int) < (n:Int):=by omega
   obtain rfl:j=n:=by omega
   go_wp2_with fail
   go_ret
   refine ⟨_,rfl,?_,HB.out⟩;have:=HS.out;rwa [List.take_of_length_le (by rw [hn.out];exact yax _)] at this
theorem zr4:Prg true Try.prog (·∈[24,26,83,84,87]):=zju zah (by kernel_rfl) (by kernel_rfl) (by kernel_rfl)
structure Api {S:Type} (md:Md (SM S)) (gv:Value) where
 J:Int→Int→(Int→Fu (SM S))→Fu (SM S)
 V:Int→(Int→Fu (SM S))→Fu (SM S)
 T:Int→Int→(Int→Fu (SM S))→Fu (SM S)
 E:Int→(Int→Int→Fu (SM S))→Fu (SM S)
 I:(List Int→Fu (SM S))→Fu (SM S)
 M:Int→(Int→Int→Fu (SM S))→Fu (SM S)
 Y:Int→Int→(Bool→Int→Fu (SM S))→Fu (SM S)
 join:∀ {p a:Int} {κ A w₀ c cs},zen a→md.End A w₀ c cs→(∀ e,md.F (κ e) A w₀ (G (c.finish (.int .i64 e)) cs))→md.F (J p a κ) A w₀ (G (Frame.enter Try.prog 73 #[gv,md.sv,.int .i64 p,.int .i64 a] .normal) (c::cs))
 leave:∀ {p:Int} {κ A w₀ c cs},md.End A w₀ c cs→(∀ e,md.F (κ e) A w₀ (G (c.finish (.int .i64 e)) cs))→md.F (V p κ) A w₀ (G (Frame.enter Try.prog 76 #[gv,md.sv,.int .i64 p] .normal) (c::cs))
 set:∀ {p a:Int} {κ A w₀ c cs},zen a→md.End A w₀ c cs→(∀ e,md.F (κ e) A w₀ (G (c.finish (.int .i64 e)) cs))→md.F (T p a κ) A w₀ (G (Frame.enter Try.prog 27 #[gv,md.sv,.int .i64 p,.int .i64 a] .normal) (c::cs))
 get:∀ {p:Int} {κ A w₀ c cs},md.End A w₀ c cs→(∀ v e,md.F (κ v e) A w₀ (G (c.finish (.tuple #[.int .i64 v,.int .i64 e])) cs))→md.F (E p κ) A w₀ (G (Frame.enter Try.prog 85 #[gv,md.sv,.int .i64 p] .normal) (c::cs))
 list:∀ {κ A w₀ c cs},md.End A w₀ c cs→(∀ l v A₁ w₁,Less md.i A w₀ A₁ w₁→RowTh md.i w₁.own w₁.heap v l→(∀ b,zdd v l b→A₁ b∧¬ A b)→l.length≤64→md.F (κ l) A₁ w₁ (G (c.finish v) cs))→md.F (I κ) A w₀ (G (Frame.enter Try.prog 86 #[gv,md.sv] .normal) (c::cs))
 least:∀ {n:Int} {κ A w₀ c cs},zen n→md.End A w₀ c cs→(∀ v p,md.F (κ v p) A w₀ (G (c.finish (.tuple #[.int .i64 v,.int .i64 p])) cs))→md.F (M n κ) A w₀ (G (Frame.enter Try.prog 74 #[gv,md.sv,.int .i64 n] .normal) (c::cs))
 may:∀ {q z:Int} {κ A w₀ c cs},zen q→zen z→md.End A w₀ c cs→(∀ t p,md.F (κ t p) A w₀ (G (c.finish (.tuple #[.bool t,.int .i64 p])) cs))→md.F (Y q z κ) A w₀ (G (Frame.enter Try.prog 75 #[gv,md.sv,.int .i64 q,.int .i64 z] .normal) (c::cs))
def zlj {S:Type} {md:Md (SM S)} {L:zg4 S GateS} {gb:Nat} (O:md.Ok) (Pt:Part md L (GateAt gb) gb TS2) (f:Nat):Api md (gpv gb) where
 J:=zeh L f
 V:=zde L f
 T:=zj2 L
 E:=zkf L
 I:=fun κ=>stepF fun m=>κ (L.get m.st).mem m
 M:=zew L
 Y:=zt1 L
 join:=fun ha he h=>zkd O Pt ha f he fun e _=>h e
 leave:=fun he h=>zle O Pt f he fun e _=>h e
 set:=fun ha he h=>zqx O Pt ha he fun e _=>h e
 get:=fun he h=>zrb O Pt he fun v e _ _=>h v e
 list:=fun {κ} _ _ _ _ he h=>zie O Pt (κ:=κ) (.inr rfl) he fun l v A₁ w₁ h1 h2 h3 h4=>h l v A₁ w₁ h1 h2 h3 (zbj h4)
 least:=fun hn he h=>zii O Pt hn he fun n p _ _=>h n p
 may:=fun hq hz he h=>zq4 O Pt hq hz he fun t p _=>h t p
noncomputable def zrk:Nat→Code
 | 0=>cA (cB (cA (cB c21)))
 | k+1=>cB (cB (zrk k))
section
variable {S:Type} {md:Md (SM S)} {gv:Value} {lo:Nat} {A:Nat→Prop} {w₀:W0 (SM S)} {c:Frame} {cs:List Frame} {κ:Ans→Fu (SM S)} {o:OpD} {y:md.β} {own1:Nat→Owner} {w1:World} {m:SM S} {N:Nat} {x:Nat→Value} {R:List Item}
structure z09 (md:Md (SM S)) (gv:Value) (lo:Nat) (A:Nat→Prop) (w₀:W0 (SM S)) (c:Frame) (cs:List Frame) (κ:Ans→Fu (SM S)) (o:OpD) (y:md.β) (own1:Nat→Owner) (w1:World) (m:SM S) (N:Nat) (x:Nat→Value):Prop where
 ho:o.Ok
 hend:md.End A w₀ c cs
 hret:∀ r v y own w m,md.C y own A w₀ w m→LRow (.th md.i) lo own w v r.l→(∀ g,v.ownBlock=some g→¬ A g)→md.GO y own w (κ r m) (G (c.finish (zdp r v)) cs) w
 C:md.C y own1 (fun b=>own1 b = .th md.i) ⟨w1.heap,m,own1⟩ w1 m
 LL:Less md.i A w₀ (fun b=>own1 b = .th md.i) ⟨w1.heap,m,own1⟩
 hA:∀ b,A b→b < N
 lo:lo≤N
 oN:own1 N = .th md.i
 eN:w1.heap[N]?=some (.cells #[.int .i64 o.kind,.int .i64 o.a,.int .i64 o.b,.int .i64 o.c] 45 (0,0))
 oB:own1 (N+1) = .th md.i
 eB:w1.heap[N+1]?=some (.cells #[.bool false,.int .i64 0,.slice none 0 0] 42 (0,0))
 hN:w1.heap.size=N+2
 x0:x 0=gv
 x1:x 1=md.sv
 x5:x 5 = .pointer (some ⟨N,0,none⟩)
 x6:x 6 = .pointer (some ⟨N+1,0,none⟩)
theorem zxy (O:md.Ok) (P:Api md gv) (I:z09 md gv lo A w₀ c cs κ o y own1 w1 m N x) :
  md.GO y own1 w1 (P.J o.a o.b (fun e=>κ (zbq 0 e)) m) (G ((base 21).at (A21 x) (.code (cA (cB (zrk 0)))::R)) (c::cs)) w1:=by
 obtain ⟨ho,hend,hret,C1,LL,hA,hlo,oN,eN,oB,eB,hN,x0,x1,x5,x6⟩:=I;generalize hmc:P.J o.a o.b (fun e=>κ (zbq 0 e)) m=mc;replace hmc:=yay hmc;replace hret:=yay hret;replace eB:=yay eB;replace hN:=yay hN;replace hA:=yay hA;replace hlo:=yay hlo;rw [show cA (cB (zrk 0))=Code.seq (Code.region _ _ _) _ from rfl]
 unfold A21;simp only [x0,x1,x5,x6];refine zae (O.xc ..) fun R0 hR0=>?_;refine zbh (O.xc ..) 6 (by decide) (by decide) (zai (by kernel_rfl)) (C1.st O) fun wp hp=>?_;simp only [yad,yae];have f1:=(zao hp ⟨N,1,none⟩).trans (zac eN 1);have f2:=(zao hp ⟨N,2,none⟩).trans (zac eN 2);simp only [yac,yaa,yab] at f1 f2;replace hp:=yay hp
 go_wp2_with fail
 refine zag hp.out (C1.st O).okd ?_;clear hp f1 f2 wp;refine zat (O.xc ..) rfl rfl (by decide) rfl Try.func73 (by kernel_rfl) (by kernel_rfl) ?_;walk_nrm;obtain rfl:=hmc.out;clear hmc;refine P.join (p:=o.a) (a:=o.b) ho.b (O.endUp (zaa Try.func21) rfl rfl (O.endMore hend LL)) (fun e=>?_) _ _ _ _ C1;intro y2 own2 w2 m2 C2;rw [Frame.finish_at];walk_nrm;obtain ⟨oB1,q2⟩:=C2.mine (N+1) oB;have eB1:=q2.trans eB.out;clear q2;generalize hmc:κ (zbq 0 e) m2=mc;replace hmc:=yay hmc;have hlt:N+1 < w2.heap.size:=C2.lt (by rw [oB1];simp);have hnl:(zbq 0 e).l=[]:=by unfold zbq;split<;>rfl
 refine O.callA C2 zr4 (f:=84) (by simp) rfl rfl (by decide) rfl Try.func84 (by kernel_rfl) (by kernel_rfl) fun wp hp=>?_;walk_nrm;refine (zgw 0 e wp).mono ?_;rintro e' w' ⟨rfl,rfl⟩;refine ⟨_,rfl,fun w4 q1 q2 q3=>O.one C2 hp rfl rfl q1 q2 (q3.trans (by simp;rw [hp.heap,zap])) fun own4 C4 e4 s4 o4 L4 low4=>?_⟩;have oB2:=(low4 (N+1) hlt).2.trans oB1;have eB2:=(low4 (N+1) hlt).1.trans eB1;clear q1 q2 q3 low4 e4 s4 o4 hp wp hlt oB1 eB1;have hrow:LRow (.th md.i) lo own4 w4 (.slice none 0 0) (zbq 0 e).l:=by rw [hnl];exact .nil
 clear hnl;generalize zbq 0 e=rr at *;refine zbp (O.xc ..) 8 1 (by decide) (by decide) (zai (by kernel_rfl)) (C4.st O) fun wp hp=>?_;simp only [yaf,yag,yad,yae];have hg:=(za7 hp (C4.dm O (by rw [oB2];simp))).trans eB2;have c0:=zac hg 0;have c1:=zac hg 1;have c2:=zac hg 2;have z0:=zan hg 0;have z1:=zan hg 1;have z2:=zan hg 2;simp only [yac,yaa,yab] at c0 c1 c2;replace hg:=yay hg;replace hp:=yay hp
 try unfold zdp at *
 go_wp2_with fail
 refine ⟨⟨rfl,rfl⟩,zf7 _ (N+1) rr (.slice none 0 0),rfl,zcg (C4.st O).okd _ _ _,zcf hp.out _ rr (.slice none 0 0),?_⟩;clear hg hp c0 c1 c2 z0 z1 z2 wp;refine zad (O.xc ..) ?_;obtain rfl:=hR0.out;clear hR0;obtain rfl:=hmc.out;exact zc9 O C4 (LL.trans L4) (fun h=>by have:=hA.out _ h;omega) oB2 eB2 rfl rr hrow (fun g hg=>by cases hg) (hret.out rr _) Try.func21 (zaa Try.func21) rfl rfl
theorem zuo (O:md.Ok) (P:Api md gv) (I:z09 md gv lo A w₀ c cs κ o y own1 w1 m N x) :
  md.GO y own1 w1 (P.V o.a (fun e=>κ (zbq 0 e)) m) (G ((base 21).at (A21 x) (.code (cA (cB (zrk 1)))::R)) (c::cs)) w1:=by
 obtain ⟨ho,hend,hret,C1,LL,hA,hlo,oN,eN,oB,eB,hN,x0,x1,x5,x6⟩:=I;generalize hmc:P.V o.a (fun e=>κ (zbq 0 e)) m=mc;replace hmc:=yay hmc;replace hret:=yay hret;replace eB:=yay eB;replace hN:=yay hN;replace hA:=yay hA;replace hlo:=yay hlo;rw [show cA (cB (zrk 1))=Code.seq (Code.region _ _ _) _ from rfl]
 unfold A21;simp only [x0,x1,x5,x6];refine zae (O.xc ..) fun R0 hR0=>?_;refine zbh (O.xc ..) 4 (by decide) (by decide) (zai (by kernel_rfl)) (C1.st O) fun wp hp=>?_;simp only [yad,yae];have f1:=(zao hp ⟨N,1,none⟩).trans (zac eN 1);have f2:=(zao hp ⟨N,2,none⟩).trans (zac eN 2);simp only [yac,yaa,yab] at f1 f2;replace hp:=yay hp
 go_wp2_with fail
 refine zag hp.out (C1.st O).okd ?_;clear hp f1 f2 wp;refine zat (O.xc ..) rfl rfl (by decide) rfl Try.func76 (by kernel_rfl) (by kernel_rfl) ?_;walk_nrm;obtain rfl:=hmc.out;clear hmc;refine P.leave (p:=o.a) (O.endUp (zaa Try.func21) rfl rfl (O.endMore hend LL)) (fun e=>?_) _ _ _ _ C1;intro y2 own2 w2 m2 C2;rw [Frame.finish_at];walk_nrm;obtain ⟨oB1,q2⟩:=C2.mine (N+1) oB;have eB1:=q2.trans eB.out;clear q2;generalize hmc:κ (zbq 0 e) m2=mc;replace hmc:=yay hmc;have hlt:N+1 < w2.heap.size:=C2.lt (by rw [oB1];simp);have hnl:(zbq 0 e).l=[]:=by unfold zbq;split<;>rfl
 refine O.callA C2 zr4 (f:=84) (by simp) rfl rfl (by decide) rfl Try.func84 (by kernel_rfl) (by kernel_rfl) fun wp hp=>?_;walk_nrm;refine (zgw 0 e wp).mono ?_;rintro e' w' ⟨rfl,rfl⟩;refine ⟨_,rfl,fun w4 q1 q2 q3=>O.one C2 hp rfl rfl q1 q2 (q3.trans (by simp;rw [hp.heap,zap])) fun own4 C4 e4 s4 o4 L4 low4=>?_⟩;have oB2:=(low4 (N+1) hlt).2.trans oB1;have eB2:=(low4 (N+1) hlt).1.trans eB1;clear q1 q2 q3 low4 e4 s4 o4 hp wp hlt oB1 eB1;have hrow:LRow (.th md.i) lo own4 w4 (.slice none 0 0) (zbq 0 e).l:=by rw [hnl];exact .nil
 clear hnl;generalize zbq 0 e=rr at *;refine zbp (O.xc ..) 6 1 (by decide) (by decide) (zai (by kernel_rfl)) (C4.st O) fun wp hp=>?_;simp only [yaf,yag,yad,yae];have hg:=(za7 hp (C4.dm O (by rw [oB2];simp))).trans eB2;have c0:=zac hg 0;have c1:=zac hg 1;have c2:=zac hg 2;have z0:=zan hg 0;have z1:=zan hg 1;have z2:=zan hg 2;simp only [yac,yaa,yab] at c0 c1 c2;replace hg:=yay hg;replace hp:=yay hp
 try unfold zdp at *
 go_wp2_with fail
 refine ⟨⟨rfl,rfl⟩,zf7 _ (N+1) rr (.slice none 0 0),rfl,zcg (C4.st O).okd _ _ _,zcf hp.out _ rr (.slice none 0 0),?_⟩;clear hg hp c0 c1 c2 z0 z1 z2 wp;refine zad (O.xc ..) ?_;obtain rfl:=hR0.out;clear hR0;obtain rfl:=hmc.out;exact zc9 O C4 (LL.trans L4) (fun h=>by have:=hA.out _ h;omega) oB2 eB2 rfl rr hrow (fun g hg=>by cases hg) (hret.out rr _) Try.func21 (zaa Try.func21) rfl rfl
theorem z0e (O:md.Ok) (P:Api md gv) (I:z09 md gv lo A w₀ c cs κ o y own1 w1 m N x) :
  md.GO y own1 w1 (P.T o.a o.b (fun e=>κ (zbq 0 e)) m) (G ((base 21).at (A21 x) (.code (cA (cB (zrk 2)))::R)) (c::cs)) w1:=by
 obtain ⟨ho,hend,hret,C1,LL,hA,hlo,oN,eN,oB,eB,hN,x0,x1,x5,x6⟩:=I;generalize hmc:P.T o.a o.b (fun e=>κ (zbq 0 e)) m=mc;replace hmc:=yay hmc;replace hret:=yay hret;replace eB:=yay eB;replace hN:=yay hN;replace hA:=yay hA;replace hlo:=yay hlo;rw [show cA (cB (zrk 2))=Code.seq (Code.region _ _ _) _ from rfl]
 unfold A21;simp only [x0,x1,x5,x6];refine zae (O.xc ..) fun R0 hR0=>?_;refine zbh (O.xc ..) 6 (by decide) (by decide) (zai (by kernel_rfl)) (C1.st O) fun wp hp=>?_;simp only [yad,yae];have f1:=(zao hp ⟨N,1,none⟩).trans (zac eN 1);have f2:=(zao hp ⟨N,2,none⟩).trans (zac eN 2);simp only [yac,yaa,yab] at f1 f2;replace hp:=yay hp
 go_wp2_with fail
 refine zag hp.out (C1.st O).okd ?_;clear hp f1 f2 wp;refine zat (O.xc ..) rfl rfl (by decide) rfl Try.func27 (by kernel_rfl) (by kernel_rfl) ?_;walk_nrm;obtain rfl:=hmc.out;clear hmc;refine P.set (p:=o.a) (a:=o.b) ho.b (O.endUp (zaa Try.func21) rfl rfl (O.endMore hend LL)) (fun e=>?_) _ _ _ _ C1;intro y2 own2 w2 m2 C2;rw [Frame.finish_at];walk_nrm;obtain ⟨oB1,q2⟩:=C2.mine (N+1) oB;have eB1:=q2.trans eB.out;clear q2;generalize hmc:κ (zbq 0 e) m2=mc;replace hmc:=yay hmc;have hlt:N+1 < w2.heap.size:=C2.lt (by rw [oB1];simp);have hnl:(zbq 0 e).l=[]:=by unfold zbq;split<;>rfl
 refine O.callA C2 zr4 (f:=84) (by simp) rfl rfl (by decide) rfl Try.func84 (by kernel_rfl) (by kernel_rfl) fun wp hp=>?_;walk_nrm;refine (zgw 0 e wp).mono ?_;rintro e' w' ⟨rfl,rfl⟩;refine ⟨_,rfl,fun w4 q1 q2 q3=>O.one C2 hp rfl rfl q1 q2 (q3.trans (by simp;rw [hp.heap,zap])) fun own4 C4 e4 s4 o4 L4 low4=>?_⟩;have oB2:=(low4 (N+1) hlt).2.trans oB1;have eB2:=(low4 (N+1) hlt).1.trans eB1;clear q1 q2 q3 low4 e4 s4 o4 hp wp hlt oB1 eB1;have hrow:LRow (.th md.i) lo own4 w4 (.slice none 0 0) (zbq 0 e).l:=by rw [hnl];exact .nil
 clear hnl;generalize zbq 0 e=rr at *;refine zbp (O.xc ..) 8 1 (by decide) (by decide) (zai (by kernel_rfl)) (C4.st O) fun wp hp=>?_;simp only [yaf,yag,yad,yae];have hg:=(za7 hp (C4.dm O (by rw [oB2];simp))).trans eB2;have c0:=zac hg 0;have c1:=zac hg 1;have c2:=zac hg 2;have z0:=zan hg 0;have z1:=zan hg 1;have z2:=zan hg 2;simp only [yac,yaa,yab] at c0 c1 c2;replace hg:=yay hg;replace hp:=yay hp
 try unfold zdp at *
 go_wp2_with fail
 refine ⟨⟨rfl,rfl⟩,zf7 _ (N+1) rr (.slice none 0 0),rfl,zcg (C4.st O).okd _ _ _,zcf hp.out _ rr (.slice none 0 0),?_⟩;clear hg hp c0 c1 c2 z0 z1 z2 wp;refine zad (O.xc ..) ?_;obtain rfl:=hR0.out;clear hR0;obtain rfl:=hmc.out;exact zc9 O C4 (LL.trans L4) (fun h=>by have:=hA.out _ h;omega) oB2 eB2 rfl rr hrow (fun g hg=>by cases hg) (hret.out rr _) Try.func21 (zaa Try.func21) rfl rfl
theorem z0f (O:md.Ok) (P:Api md gv) (I:z09 md gv lo A w₀ c cs κ o y own1 w1 m N x) :
  md.GO y own1 w1 (P.Y o.a o.b (fun t p=>κ ⟨t,p,[]⟩) m) (G ((base 21).at (A21 x) (.code (cA (cB (zrk 6)))::R)) (c::cs)) w1:=by
 obtain ⟨ho,hend,hret,C1,LL,hA,hlo,oN,eN,oB,eB,hN,x0,x1,x5,x6⟩:=I;generalize hmc:P.Y o.a o.b (fun t p=>κ ⟨t,p,[]⟩) m=mc;replace hmc:=yay hmc;replace hret:=yay hret;replace eB:=yay eB;replace hN:=yay hN;replace hA:=yay hA;replace hlo:=yay hlo;rw [show cA (cB (zrk 6))=Code.seq (Code.region _ _ _) _ from rfl]
 unfold A21;simp only [x0,x1,x5,x6];refine zae (O.xc ..) fun R0 hR0=>?_;refine zbh (O.xc ..) 6 (by decide) (by decide) (zai (by kernel_rfl)) (C1.st O) fun wp hp=>?_;simp only [yad,yae];have f1:=(zao hp ⟨N,1,none⟩).trans (zac eN 1);have f2:=(zao hp ⟨N,2,none⟩).trans (zac eN 2);simp only [yac,yaa,yab] at f1 f2;replace hp:=yay hp
 go_wp2_with fail
 refine zag hp.out (C1.st O).okd ?_;clear hp f1 f2 wp;refine zat (O.xc ..) rfl rfl (by decide) rfl Try.func75 (by kernel_rfl) (by kernel_rfl) ?_;walk_nrm;obtain rfl:=hmc.out;clear hmc;refine P.may (q:=o.a) (z:=o.b) ho.a ho.b (O.endUp (zaa Try.func21) rfl rfl (O.endMore hend LL)) (fun t p=>?_) _ _ _ _ C1;intro y2 own2 w2 m2 C2;rw [Frame.finish_at];walk_nrm;obtain ⟨oB2,q2⟩:=C2.mine (N+1) oB;have eB2:=q2.trans eB.out;clear q2;generalize hmc:κ ⟨t,p,[]⟩ m2=mc;replace hmc:=yay hmc;refine zbp (O.xc ..) 7 5 (by decide) (by decide) (zai (by kernel_rfl)) (C2.st O) fun wp hp=>?_;simp only [yaf,yag,yad,yae];replace hp:=yay hp
 go_wp2_with fail
 refine zag hp.out (C2.st O).okd ?_;clear hp  wp;refine zad (O.xc ..) ?_;obtain rfl:=hR0.out;clear hR0;refine zae (O.xc ..) fun R0 hR0=>?_;refine zbh (O.xc ..) 4 (by decide) (by decide) (zai (by kernel_rfl)) (C2.st O) fun wp hp=>?_;simp only [yad,yae];have hg:=(za7 hp (C2.dm O (by rw [oB2];simp))).trans eB2;have c0:=zac hg 0;have c1:=zac hg 1;have c2:=zac hg 2;have z0:=zan hg 0;have z1:=zan hg 1;have z2:=zan hg 2;simp only [yac,yaa,yab] at c0 c1 c2;replace hg:=yay hg;replace hp:=yay hp
 try unfold zdp at *
 go_wp2_with fail
 refine ⟨⟨rfl,rfl⟩,zf7 _ (N+1) ⟨t,p,[]⟩ (.slice none 0 0),rfl,zcg (C2.st O).okd _ _ _,zcf hp.out _ ⟨t,p,[]⟩ (.slice none 0 0),?_⟩;clear hg hp c0 c1 c2 z0 z1 z2 wp;refine zad (O.xc ..) ?_;obtain rfl:=hR0.out;clear hR0;obtain rfl:=hmc.out;exact zc9 O C2 LL (fun h=>by have:=hA.out _ h;omega) oB2 eB2 rfl ⟨t,p,[]⟩ LRow.nil (fun g hg=>by cases hg) (hret.out ⟨t,p,[]⟩ _) Try.func21 (zaa Try.func21) rfl rfl
theorem zup (O:md.Ok) (P:Api md gv) (I:z09 md gv lo A w₀ c cs κ o y own1 w1 m N x) :
  md.GO y own1 w1 (P.M o.a (fun n p=>κ ⟨true,n,[p]⟩) m) (G ((base 21).at (A21 x) (.code (cA (cB (zrk 5)))::R)) (c::cs)) w1:=by
 obtain ⟨ho,hend,hret,C1,LL,hA,hlo,oN,eN,oB,eB,hN,x0,x1,x5,x6⟩:=I;generalize hmc:P.M o.a (fun n p=>κ ⟨true,n,[p]⟩) m=mc;replace hmc:=yay hmc;replace hret:=yay hret;replace eB:=yay eB;replace hN:=yay hN;replace hA:=yay hA;replace hlo:=yay hlo;rw [show cA (cB (zrk 5))=Code.seq (Code.region _ _ _) _ from rfl]
 unfold A21;simp only [x0,x1,x5,x6];refine zae (O.xc ..) fun R0 hR0=>?_;refine zbh (O.xc ..) 4 (by decide) (by decide) (zai (by kernel_rfl)) (C1.st O) fun wp hp=>?_;simp only [yad,yae];have f1:=(zao hp ⟨N,1,none⟩).trans (zac eN 1);have f2:=(zao hp ⟨N,2,none⟩).trans (zac eN 2);simp only [yac,yaa,yab] at f1 f2;replace hp:=yay hp
 go_wp2_with fail
 refine zag hp.out (C1.st O).okd ?_;clear hp f1 f2 wp;refine zat (O.xc ..) rfl rfl (by decide) rfl Try.func74 (by kernel_rfl) (by kernel_rfl) ?_;walk_nrm;obtain rfl:=hmc.out;clear hmc;refine P.least (n:=o.a) ho.a (O.endUp (zaa Try.func21) rfl rfl (O.endMore hend LL)) (fun n p=>?_) _ _ _ _ C1;intro y2 own2 w2 m2 C2;rw [Frame.finish_at];walk_nrm;obtain ⟨oB2,q2⟩:=C2.mine (N+1) oB;have eB2:=q2.trans eB.out;clear q2;generalize hmc:κ ⟨true,n,[p]⟩ m2=mc;replace hmc:=yay hmc;refine zbp (O.xc ..) 5 5 (by decide) (by decide) (zai (by kernel_rfl)) (C2.st O) fun wp hp=>?_;simp only [yaf,yag,yad,yae];replace hp:=yay hp
 go_wp2_with fail
 refine zag hp.out (C2.st O).okd ?_;clear hp  wp;refine zad (O.xc ..) ?_;obtain rfl:=hR0.out;clear hR0;refine zae (O.xc ..) fun R0 hR0=>?_;refine zbh (O.xc ..) 2 (by decide) (by decide) (zai (by kernel_rfl)) (C2.st O) fun wp hp=>?_;simp only [yad,yae];replace hp:=yay hp
 go_wp2_with fail
 refine zag hp.out (C2.st O).okd ?_;clear hp  wp;have hlt:N+1 < w2.heap.size:=C2.lt (by rw [oB2];simp);obtain ⟨K,hK⟩:∃ K,w2.heap.size=K:=⟨_,rfl⟩;refine O.opD C2 rfl rfl (by decide) (zai (l:=[_]) (by kernel_rfl) _ (yaj.2 rfl)) fun wp hp=>⟨.slice (some ⟨wp.heap.size,0,none⟩) 1 1,wp.alloc (.cells #[.int .i64 p] 2),?_,fun w4 q1 q2 q3=>?_⟩
 ·go_simp<;>rfl
 have hsz:wp.heap.size=K:=by rw [hp.heap,zap];exact hK
 rw [hsz];refine O.one C2 hp rfl hK q1 q2 (q3.trans (by simp;exact hsz)) fun own4 C4 e4 s4 o4 L4 low4=>?_;have oB3:=(low4 (N+1) (by omega)).2.trans oB2;have eB3:=(low4 (N+1) (by omega)).1.trans eB2;clear oB2 eB2;have oB2:=oB3;have eB2:=eB3;clear oB3 eB3 q1 q2 q3 low4 hp hsz wp;walk_nrm;refine zbp (O.xc ..) 3 2 (by decide) (by decide) (zai (by kernel_rfl)) (C4.st O) fun wp hp=>?_;simp only [yaf,yag,yad,yae];have hg:=(za7 hp (C4.dm O (by rw [oB2];simp))).trans eB2;have c0:=zac hg 0;have c1:=zac hg 1;have c2:=zac hg 2;have z0:=zan hg 0;have z1:=zan hg 1;have z2:=zan hg 2;simp only [yac,yaa,yab] at c0 c1 c2;replace hg:=yay hg;replace hp:=yay hp
 try unfold zdp at *
 go_wp2_with fail
 refine ⟨⟨rfl,rfl⟩,zf7 _ (N+1) ⟨true,n,[p]⟩ (.slice (some ⟨K,0,none⟩) 1 1),rfl,zcg (C4.st O).okd _ _ _,zcf hp.out _ ⟨true,n,[p]⟩ (.slice (some ⟨K,0,none⟩) 1 1),?_⟩;clear hg hp c0 c1 c2 z0 z1 z2 wp;refine zad (O.xc ..) ?_;obtain rfl:=hR0.out;clear hR0;have hKN:N+1 < K:=by omega
 have hrow:LRow (.th md.i) lo own4 w4 (.slice (some ⟨K,0,none⟩) 1 1) [p]:=⟨⟨rfl,.inr ⟨K,1,#[.int .i64 p],rfl,by have:=hlo.out;omega,e4,by simp,by decide,rfl,rfl⟩⟩,fun g hg=>by cases hg;exact o4⟩;obtain rfl:=hmc.out;exact zc9 O C4 (LL.trans L4) (fun h=>by have:=hA.out _ h;omega) oB2 eB2 rfl ⟨true,n,[p]⟩ hrow (fun g hg=>by cases hg;exact ⟨fun h=>by have:K < N:=hA.out _ h;omega,by show K≠N+1;omega⟩) (hret.out ⟨true,n,[p]⟩ _) Try.func21 (zaa Try.func21) rfl rfl
theorem z0g (O:md.Ok) (P:Api md gv) (I:z09 md gv lo A w₀ c cs κ o y own1 w1 m N x) :
  md.GO y own1 w1 (P.E o.a (fun n e=>κ (zbq n e)) m) (G ((base 21).at (A21 x) (.code (cA (cB (zrk 3)))::R)) (c::cs)) w1:=by
 obtain ⟨ho,hend,hret,C1,LL,hA,hlo,oN,eN,oB,eB,hN,x0,x1,x5,x6⟩:=I;generalize hmc:P.E o.a (fun n e=>κ (zbq n e)) m=mc;replace hmc:=yay hmc;replace hret:=yay hret;replace eB:=yay eB;replace hN:=yay hN;replace hA:=yay hA;replace hlo:=yay hlo;rw [show cA (cB (zrk 3))=Code.seq (Code.region _ _ _) _ from rfl]
 unfold A21;simp only [x0,x1,x5,x6];refine zae (O.xc ..) fun R0 hR0=>?_;refine zbh (O.xc ..) 4 (by decide) (by decide) (zai (by kernel_rfl)) (C1.st O) fun wp hp=>?_;simp only [yad,yae];have f1:=(zao hp ⟨N,1,none⟩).trans (zac eN 1);have f2:=(zao hp ⟨N,2,none⟩).trans (zac eN 2);simp only [yac,yaa,yab] at f1 f2;replace hp:=yay hp
 go_wp2_with fail
 refine zag hp.out (C1.st O).okd ?_;clear hp f1 f2 wp;refine zat (O.xc ..) rfl rfl (by decide) rfl Try.func85 (by kernel_rfl) (by kernel_rfl) ?_;walk_nrm;obtain rfl:=hmc.out;clear hmc;refine P.get (p:=o.a) (O.endUp (zaa Try.func21) rfl rfl (O.endMore hend LL)) (fun n e=>?_) _ _ _ _ C1;intro y2 own2 w2 m2 C2;rw [Frame.finish_at];walk_nrm;obtain ⟨oB1,q2⟩:=C2.mine (N+1) oB;have eB1:=q2.trans eB.out;clear q2;generalize hmc:κ (zbq n e) m2=mc;replace hmc:=yay hmc;refine zbp (O.xc ..) 5 2 (by decide) (by decide) (zai (by kernel_rfl)) (C2.st O) fun wp hp=>?_;simp only [yaf,yag,yad,yae];replace hp:=yay hp
 go_wp2_with fail
 refine zag hp.out (C2.st O).okd ?_;clear hp  wp;have hlt:N+1 < w2.heap.size:=C2.lt (by rw [oB1];simp);have hnl:(zbq n e).l=[]:=by unfold zbq;split<;>rfl
 refine O.callA C2 zr4 (f:=84) (by simp) rfl rfl (by decide) rfl Try.func84 (by kernel_rfl) (by kernel_rfl) fun wp hp=>?_;walk_nrm;refine (zgw n e wp).mono ?_;rintro e' w' ⟨rfl,rfl⟩;refine ⟨_,rfl,fun w4 q1 q2 q3=>O.one C2 hp rfl rfl q1 q2 (q3.trans (by simp;rw [hp.heap,zap])) fun own4 C4 e4 s4 o4 L4 low4=>?_⟩;have oB2:=(low4 (N+1) hlt).2.trans oB1;have eB2:=(low4 (N+1) hlt).1.trans eB1;clear q1 q2 q3 low4 e4 s4 o4 hp wp hlt oB1 eB1;have hrow:LRow (.th md.i) lo own4 w4 (.slice none 0 0) (zbq n e).l:=by rw [hnl];exact .nil
 clear hnl;generalize zbq n e=rr at *;refine zbp (O.xc ..) 8 1 (by decide) (by decide) (zai (by kernel_rfl)) (C4.st O) fun wp hp=>?_;simp only [yaf,yag,yad,yae];have hg:=(za7 hp (C4.dm O (by rw [oB2];simp))).trans eB2;have c0:=zac hg 0;have c1:=zac hg 1;have c2:=zac hg 2;have z0:=zan hg 0;have z1:=zan hg 1;have z2:=zan hg 2;simp only [yac,yaa,yab] at c0 c1 c2;replace hg:=yay hg;replace hp:=yay hp
 try unfold zdp at *
 go_wp2_with fail
 refine ⟨⟨rfl,rfl⟩,zf7 _ (N+1) rr (.slice none 0 0),rfl,zcg (C4.st O).okd _ _ _,zcf hp.out _ rr (.slice none 0 0),?_⟩;clear hg hp c0 c1 c2 z0 z1 z2 wp;refine zad (O.xc ..) ?_;obtain rfl:=hR0.out;clear hR0;obtain rfl:=hmc.out;exact zc9 O C4 (LL.trans L4) (fun h=>by have:=hA.out _ h;omega) oB2 eB2 rfl rr hrow (fun g hg=>by cases hg) (hret.out rr _) Try.func21 (zaa Try.func21) rfl rfl
theorem zxx (O:md.Ok) (P:Api md gv) (I:z09 md gv lo A w₀ c cs κ o y own1 w1 m N x) :
  md.GO y own1 w1 (P.I (fun l=>κ ⟨true,0,l⟩) m) (G ((base 21).at (A21 x) (.code (cA (cB (zrk 4)))::R)) (c::cs)) w1:=by
 obtain ⟨ho,hend,hret,C1,LL,hA,hlo,oN,eN,oB,eB,hN,x0,x1,x5,x6⟩:=I;generalize hmc:P.I (fun l=>κ ⟨true,0,l⟩) m=mc;replace hmc:=yay hmc;replace hret:=yay hret;replace eB:=yay eB;replace hN:=yay hN;replace hA:=yay hA;replace hlo:=yay hlo;rw [show cA (cB (zrk 4))=Code.seq (Code.region _ _ _) _ from rfl]
 unfold A21;simp only [x0,x1,x5,x6];refine zae (O.xc ..) fun R0 hR0=>?_;refine zbh (O.xc ..) 2 (by decide) (by decide) (zai (by kernel_rfl)) (C1.st O) fun wp hp=>?_;simp only [yad,yae];replace hp:=yay hp
 go_wp2_with fail
 refine zag hp.out (C1.st O).okd ?_;clear hp  wp;refine zat (O.xc ..) rfl rfl (by decide) rfl Try.func86 (by kernel_rfl) (by kernel_rfl) ?_;walk_nrm;obtain rfl:=hmc.out;clear hmc;refine P.list (κ:=fun l=>κ ⟨true,0,l⟩) (O.endUp (zaa Try.func21) rfl rfl (O.endMore hend LL)) (fun l v A₁ w₁ L1 hrow hrb hlen=>?_) y own1 w1 m C1;intro y5 own5 w5 m5 C5;rw [Frame.finish_at];obtain ⟨oB5,q5⟩:=C5.mine (N+1) (L1.own _ oB).1;have eB5:=q5.trans ((L1.own _ oB).2.trans eB.out);clear q5;generalize hmc:κ ⟨true,0,l⟩ m5=mc;replace hmc:=yay hmc;have hlt:N+1 < w5.heap.size:=C5.lt (by rw [oB5];simp);obtain ⟨va,vc,rfl,hcell⟩:∃ va vc,v = .slice va l.length vc∧(l≠[]→∃ b off,va=some ⟨b,off,none⟩∧md.D b=none∧∀ j x,l[j]?=some x→w5.cell? ⟨b,off+j,none⟩=some (.int .i64 x)):=by
  obtain ⟨_,va,vc,rfl,_,q⟩:=hrow;refine ⟨va,vc,rfl,fun hne=>?_⟩;obtain ⟨b,off,cc,rfl,q1,q2,q3⟩:=q hne;have hb:=C5.mine b (hrb b ⟨hne,off,_,vc,rfl⟩).1;exact ⟨b,off,rfl,C5.dm O (by rw [hb.1];simp),fun j x hj=>(zac (hb.2.trans q2) _).trans (q3 j x hj)⟩
 walk_nrm;refine O.callA C5 zr4 (f:=24) (by simp) rfl rfl (by decide) rfl Try.func24 (by kernel_rfl) (by kernel_rfl) fun wp hp=>?_;walk_nrm;have hiv:IntsAt wp (.slice va l.length vc) l:=⟨va,vc,rfl,fun hne=>by
  obtain ⟨b,off,e,hD,q⟩:=hcell hne;exact ⟨b,off,e,fun j x hj=>(zao hp _).trans (q j x hj)⟩⟩
 refine (zoo wp hiv (by omega)).mono ?_;rintro e' w' ⟨v',rfl,hr,hB⟩;refine ⟨v',rfl,fun w6 q1 q2 q3=>?_⟩;have hsz:wp.heap.size=w5.heap.size:=by rw [hp.heap,zap]
 obtain ⟨own6,C6,hO6,hF6,hn6,ho6⟩:=C5.growW (own0:=own5) (w0:=w5) (w1:=w6) O .refl .refl none (fun b z=>by cases z) (by rw [q3,← hsz];exact hB.size) fun b hb _=>q2 b (hB.block b (by omega));have low6:∀ b,b < w5.heap.size→w6.heap[b]?=w5.heap[b]?:=fun b hb=>q2 b (hB.block b (by omega));have oB2:=(ho6 (N+1) hlt).trans oB5;have eB2:=(low6 (N+1) hlt).trans eB5;have hrow6:LRow (.th md.i) lo own6 w6 v' l:=by
  rw [hsz] at hr;obtain ⟨h1,h2⟩:=hr;rcases h2 with ⟨rfl,h2⟩|⟨g,cap,cur,rfl,g1,g2,g3⟩
  ·exact ⟨⟨h1,.inl ⟨rfl,h2⟩⟩,fun g hg=>by cases hg⟩
  ·have e4:=(q1 g (C5.dn O g1)).trans g2;exact ⟨⟨h1,.inr ⟨g,cap,cur,rfl,by have:=hlo.out;have:=hN.out;omega,e4,g3⟩⟩,fun b hb=>by cases hb;exact hn6 g g1 (yah.1 e4).1⟩
 have hvA:∀ g,v'.ownBlock=some g→w5.heap.size≤g:=fun g hg=>by
  have:=(zbc hr hg).1;omega
 refine O.rebase hO6 hF6 ?_;obtain ⟨ua,un,uc,rfl⟩:∃ ua un uc,v' = .slice ua un uc:=by
  rcases hrow6.row.2 with ⟨e,_⟩|⟨g',cap,cur,e,_⟩<;>exact ⟨_,_,_,e⟩
 replace hrow6:=yay hrow6;replace hvA:=yay hvA;clear hr hB q1 q2 q3 hiv hcell hp wp hrow hrb C5 low6 hn6 ho6 hO6 hF6 hsz oB5 eB5
 try walk_nrm
 refine zbp (O.xc ..) 4 2 (by decide) (by decide) (zai (by kernel_rfl)) (C6.st O) fun wp hp=>?_;simp only [yaf,yag,yad,yae];have hg:=(za7 hp (C6.dm O (by rw [oB2];simp))).trans eB2;have c0:=zac hg 0;have c1:=zac hg 1;have c2:=zac hg 2;have z0:=zan hg 0;have z1:=zan hg 1;have z2:=zan hg 2;simp only [yac,yaa,yab] at c0 c1 c2;replace hg:=yay hg;replace hp:=yay hp
 try unfold zdp at *
 go_wp2_with fail
 refine ⟨⟨rfl,rfl⟩,zf7 _ (N+1) ⟨true,0,l⟩ (.slice ua un uc),rfl,zcg (C6.st O).okd _ _ _,zcf hp.out _ ⟨true,0,l⟩ (.slice ua un uc),?_⟩;clear hg hp c0 c1 c2 z0 z1 z2 wp;refine zad (O.xc ..) ?_;obtain rfl:=hR0.out;clear hR0;obtain rfl:=hmc.out;have hlen5:=hN.out;exact zc9 O C6 (LL.trans L1) (fun h=>by have:=hA.out _ h;omega) oB2 eB2 rfl ⟨true,0,l⟩ hrow6.out (fun g hg=>⟨fun h=>by have h1:=hA.out _ h;have h2:=hvA.out g hg;omega,by have h2:=hvA.out g hg;omega⟩) (hret.out ⟨true,0,l⟩ _) Try.func21 (zaa Try.func21) rfl rfl
end
def callA {S:Type} {md:Md (SM S)} {gv:Value} (P:Api md gv) (o:OpD) (κ:Ans→Fu (SM S)):Fu (SM S) :=
 if o.kind=1 then P.J o.a o.b (fun e=>κ (zbq 0 e))
 else if o.kind=2 then P.V o.a (fun e=>κ (zbq 0 e))
 else if o.kind=3 then P.T o.a o.b (fun e=>κ (zbq 0 e))
 else if o.kind=4 then P.E o.a (fun n e=>κ (zbq n e))
 else if o.kind=5 then P.I (fun l=>κ ⟨true,0,l⟩)
 else if o.kind=6 then P.M o.a (fun n p=>κ ⟨true,n,[p]⟩)
 else if o.kind=7 then P.Y o.a o.b (fun t p=>κ ⟨t,p,[]⟩)
 else κ ⟨false,0,[]⟩
section
variable {S:Type} {md:Md (SM S)} {gv:Value} {lo:Nat}
theorem zsu (O:md.Ok) (P:Api md gv) (hlo:∀ {m own w},md.Rep m own w→lo≤w.heap.size) {o:OpD} {κ:Ans→Fu (SM S)} {A:Nat→Prop} {w₀:W0 (SM S)} {c:Frame} {cs:List Frame} (ho:o.Ok) (hend:md.End A w₀ c cs)
  (hret:∀ r v y own w m,md.C y own A w₀ w m→LRow (.th md.i) lo own w v r.l→(∀ g,v.ownBlock=some g→¬ A g)→md.GO y own w (κ r m) (G (c.finish (zdp r v)) cs) w) :
  md.F (callA P o κ) A w₀ (G (Frame.enter Try.prog 21 #[gv,md.sv,opV o] .normal) (c::cs)):=by
 intro y own w m C;unfold opV;rw [enter_at _ Try.func21 rfl];simp only [Try.ntmps21,yan,yau,yav,Nat.reduceAdd,Nat.reduceSub,yao,
   yap,yaq,yar,yas,yat]
 generalize hmc:callA P o κ m=mc;replace hmc:=yay hmc;replace hret:=yay hret;obtain ⟨N,hN⟩:∃ N,w.heap.size=N:=⟨_,rfl⟩;have hloN:=hlo C.rep;refine zae (O.xc ..) fun R0 hR0=>?_;refine O.segA C zr4 (zab zah (by kernel_rfl)) rfl (zaa Try.func21) rfl fun wp hp=>?_;have hsz:wp.heap.size=N:=by rw [hp.heap,zap];exact hN
 replace hp:=yay hp;replace hsz:=yay hsz;replace hN:=yay hN;replace hloN:=yay hloN
 go_wp2_with fail
 rw [hsz.out];refine fun w1 q1 q2 q3=>O.two C hp.out rfl hN.out q1 q2 q3 fun own1 C1 e1 e2 s1 o1 o2 LL low=>?_;have hA:∀ b,A b→b < N:=fun b hb=>by
  rw [← hN.out];exact C.lt (by rw [(C.mine b hb).1];simp)
 clear q1 q2 q3 hp hsz wp low;obtain rfl:=hR0.out;clear hR0;replace C:=yay C;replace hA:=yay hA;have mkI:∀ x:Nat→Value,x 0=gv→x 1=md.sv→x 5 = .pointer (some ⟨N,0,none⟩)→x 6 = .pointer (some ⟨N+1,0,none⟩)→z09 md gv lo A w₀ c cs κ o y own1 w1 m N x:=fun x z0 z1 z7 z8=>⟨ho,hend,hret.out,C1,LL,hA.out,by have:=hloN.out;have:=hN.out;omega,o1,e1,o2,e2,s1,z0,z1,z7,z8⟩;replace mkI:=yay mkI;replace hend:=yay hend;replace ho:=yay ho;replace LL:=yay LL;replace s1:=yay s1;clear hlo;refine zae (O.xc ..) fun R0 hR0=>?_;refine zae (O.xc ..) fun R1 hR1=>?_;refine O.seg0 C1 zr4 (zab zah (by kernel_rfl)) rfl (zaa Try.func21) rfl fun wp hp=>?_;have k0:=(zac ((za7 hp (C1.dm O (by rw [o1];simp))).trans e1) 0);simp only [yac,yaa] at k0;replace hp:=yay hp
 go_wp2_with fail
 refine ⟨hp.out,?_⟩;clear hp k0 wp;obtain rfl:=hR1.out;clear hR1;refine zb0 (O.xc ..) ?_;refine zae (O.xc ..) fun R1 hR1=>?_;refine O.seg0 C1 zr4 (zab zah (by kernel_rfl)) rfl (zaa Try.func21) rfl fun wp hp=>?_;replace hp:=yay hp
 go_wp2_with fail
 refine ⟨hp.out,?_⟩;clear hp  wp;obtain rfl:=hR1.out;clear hR1;by_cases k1:o.kind=1
 ·have e:callA P o κ=P.J o.a o.b (fun e=>κ (zbq 0 e)):=by unfold callA;rw [if_pos k1]
  have hz:(o.kind==1)=true:=by simpa using k1
  refine zam (O.xc ..) (t:=true) (by show Value.bool (o.kind==1)=_;rw [hz]) ?_;obtain rfl:=hmc.out;rw [e,zlw _ rfl];exact zxy O P (mkI.out _ rfl rfl rfl rfl)
 have hz1:(o.kind==1)=false:=by simpa using k1
 refine zam (O.xc ..) (t:=false) (by show Value.bool (o.kind==1)=_;rw [hz1]) ?_;replace k1:=yay k1;clear hz1;refine zae (O.xc ..) fun R1 hR1=>?_;refine O.seg0 C1 zr4 (zab zah (by kernel_rfl)) rfl (zaa Try.func21) rfl fun wp hp=>?_;replace hp:=yay hp
 go_wp2_with fail
 refine ⟨hp.out,?_⟩;clear hp  wp;obtain rfl:=hR1.out;clear hR1;by_cases k2:o.kind=2
 ·have e:callA P o κ=P.V o.a (fun e=>κ (zbq 0 e)):=by unfold callA;rw [if_neg k1.out,if_pos k2]
  have hz:(o.kind==2)=true:=by simpa using k2
  refine zam (O.xc ..) (t:=true) (by show Value.bool (o.kind==2)=_;rw [hz]) ?_;obtain rfl:=hmc.out;rw [e,zlw _ rfl];exact zuo O P (mkI.out _ rfl rfl rfl rfl)
 have hz2:(o.kind==2)=false:=by simpa using k2
 refine zam (O.xc ..) (t:=false) (by show Value.bool (o.kind==2)=_;rw [hz2]) ?_;replace k2:=yay k2;clear hz2;refine zae (O.xc ..) fun R1 hR1=>?_;refine O.seg0 C1 zr4 (zab zah (by kernel_rfl)) rfl (zaa Try.func21) rfl fun wp hp=>?_;replace hp:=yay hp
 go_wp2_with fail
 refine ⟨hp.out,?_⟩;clear hp  wp;obtain rfl:=hR1.out;clear hR1;by_cases k3:o.kind=3
 ·have e:callA P o κ=P.T o.a o.b (fun e=>κ (zbq 0 e)):=by unfold callA;rw [if_neg k1.out,if_neg k2.out,if_pos k3]
  have hz:(o.kind==3)=true:=by simpa using k3
  refine zam (O.xc ..) (t:=true) (by show Value.bool (o.kind==3)=_;rw [hz]) ?_;obtain rfl:=hmc.out;rw [e,zlw _ rfl];exact z0e O P (mkI.out _ rfl rfl rfl rfl)
 have hz3:(o.kind==3)=false:=by simpa using k3
 refine zam (O.xc ..) (t:=false) (by show Value.bool (o.kind==3)=_;rw [hz3]) ?_;replace k3:=yay k3;clear hz3;refine zae (O.xc ..) fun R1 hR1=>?_;refine O.seg0 C1 zr4 (zab zah (by kernel_rfl)) rfl (zaa Try.func21) rfl fun wp hp=>?_;replace hp:=yay hp
 go_wp2_with fail
 refine ⟨hp.out,?_⟩;clear hp  wp;obtain rfl:=hR1.out;clear hR1;by_cases k4:o.kind=4
 ·have e:callA P o κ=P.E o.a (fun n e=>κ (zbq n e)):=by unfold callA;rw [if_neg k1.out,if_neg k2.out,if_neg k3.out,if_pos k4]
  have hz:(o.kind==4)=true:=by simpa using k4
  refine zam (O.xc ..) (t:=true) (by show Value.bool (o.kind==4)=_;rw [hz]) ?_;obtain rfl:=hmc.out;rw [e,zlw _ rfl];exact z0g O P (mkI.out _ rfl rfl rfl rfl)
 have hz4:(o.kind==4)=false:=by simpa using k4
 refine zam (O.xc ..) (t:=false) (by show Value.bool (o.kind==4)=_;rw [hz4]) ?_;replace k4:=yay k4;clear hz4;refine zae (O.xc ..) fun R1 hR1=>?_;refine O.seg0 C1 zr4 (zab zah (by kernel_rfl)) rfl (zaa Try.func21) rfl fun wp hp=>?_;replace hp:=yay hp
 go_wp2_with fail
 refine ⟨hp.out,?_⟩;clear hp  wp;obtain rfl:=hR1.out;clear hR1;by_cases k5:o.kind=5
 ·have e:callA P o κ=P.I (fun l=>κ ⟨true,0,l⟩):=by unfold callA;rw [if_neg k1.out,if_neg k2.out,if_neg k3.out,if_neg k4.out,if_pos k5]
  have hz:(o.kind==5)=true:=by simpa using k5
  refine zam (O.xc ..) (t:=true) (by show Value.bool (o.kind==5)=_;rw [hz]) ?_;obtain rfl:=hmc.out;rw [e,zlw _ rfl];exact zxx O P (mkI.out _ rfl rfl rfl rfl)
 have hz5:(o.kind==5)=false:=by simpa using k5
 refine zam (O.xc ..) (t:=false) (by show Value.bool (o.kind==5)=_;rw [hz5]) ?_;replace k5:=yay k5;clear hz5;refine zae (O.xc ..) fun R1 hR1=>?_;refine O.seg0 C1 zr4 (zab zah (by kernel_rfl)) rfl (zaa Try.func21) rfl fun wp hp=>?_;replace hp:=yay hp
 go_wp2_with fail
 refine ⟨hp.out,?_⟩;clear hp  wp;obtain rfl:=hR1.out;clear hR1;by_cases k6:o.kind=6
 ·have e:callA P o κ=P.M o.a (fun n p=>κ ⟨true,n,[p]⟩):=by unfold callA;rw [if_neg k1.out,if_neg k2.out,if_neg k3.out,if_neg k4.out,if_neg k5.out,if_pos k6]
  have hz:(o.kind==6)=true:=by simpa using k6
  refine zam (O.xc ..) (t:=true) (by show Value.bool (o.kind==6)=_;rw [hz]) ?_;obtain rfl:=hmc.out;rw [e,zlw _ rfl];exact zup O P (mkI.out _ rfl rfl rfl rfl)
 have hz6:(o.kind==6)=false:=by simpa using k6
 refine zam (O.xc ..) (t:=false) (by show Value.bool (o.kind==6)=_;rw [hz6]) ?_;replace k6:=yay k6;clear hz6;refine zae (O.xc ..) fun R1 hR1=>?_;refine O.seg0 C1 zr4 (zab zah (by kernel_rfl)) rfl (zaa Try.func21) rfl fun wp hp=>?_;replace hp:=yay hp
 go_wp2_with fail
 refine ⟨hp.out,?_⟩;clear hp  wp;obtain rfl:=hR1.out;clear hR1;by_cases k7:o.kind=7
 ·have e:callA P o κ=P.Y o.a o.b (fun t p=>κ ⟨t,p,[]⟩):=by unfold callA;rw [if_neg k1.out,if_neg k2.out,if_neg k3.out,if_neg k4.out,if_neg k5.out,if_neg k6.out,if_pos k7]
  have hz:(o.kind==7)=true:=by simpa using k7
  refine zam (O.xc ..) (t:=true) (by show Value.bool (o.kind==7)=_;rw [hz]) ?_;obtain rfl:=hmc.out;rw [e,zlw _ rfl];exact z0f O P (mkI.out _ rfl rfl rfl rfl)
 have hz7:(o.kind==7)=false:=by simpa using k7
 refine zam (O.xc ..) (t:=false) (by show Value.bool (o.kind==7)=_;rw [hz7]) ?_;replace k7:=yay k7;clear hz7;have e:callA P o κ=κ ⟨false,0,[]⟩:=by unfold callA;rw [if_neg k1.out,if_neg k2.out,if_neg k3.out,if_neg k4.out,if_neg k5.out,if_neg k6.out,if_neg k7.out]
 rw [e] at hmc;refine zbm (O.xc ..) ?_;refine zb3 (O.xc ..) ?_;obtain rfl:=hR0.out;clear hR0;have oB2:=o2;have eB2:=e2;refine zae (O.xc ..) fun R0 hR0=>?_;refine zbh (O.xc ..) 2 (by decide) (by decide) (zai (by kernel_rfl)) (C1.st O) fun wp hp=>?_;simp only [yad,yae];have hg:=(za7 hp (C1.dm O (by rw [oB2];simp))).trans eB2;have c0:=zac hg 0;have c1:=zac hg 1;have c2:=zac hg 2;have z0:=zan hg 0;have z1:=zan hg 1;have z2:=zan hg 2;simp only [yac,yaa,yab] at c0 c1 c2;replace hg:=yay hg;replace hp:=yay hp
 try unfold zdp at *
 go_wp2_with fail
 refine ⟨⟨rfl,rfl⟩,zf7 _ (N+1) ⟨false,0,[]⟩ (.slice none 0 0),rfl,zcg (C1.st O).okd _ _ _,zcf hp.out _ ⟨false,0,[]⟩ (.slice none 0 0),?_⟩;clear hg hp c0 c1 c2 z0 z1 z2 wp;refine zad (O.xc ..) ?_;obtain rfl:=hR0.out;clear hR0;obtain rfl:=hmc.out;exact zc9 O C1 LL.out (fun h=>by have:=hA.out _ h;omega) oB2 eB2 rfl ⟨false,0,[]⟩ LRow.nil (fun g hg=>by cases hg) (hret.out ⟨false,0,[]⟩ _) Try.func21 (zaa Try.func21) rfl rfl
end
def zbi (s:GateS) (o:OpD):Ans×GateS :=
 if o.kind=1 then (zbq 0 (zfm s o.a o.b).1,(zfm s o.a o.b).2)
 else if o.kind=2 then (zbq 0 (zd0 s o.a).1,(zd0 s o.a).2)
 else if o.kind=3 then (zbq 0 (zy9 s o.a o.b).1,(zy9 s o.a o.b).2)
 else if o.kind=4 then (zbq (zsj s o.a).1 (zsj s o.a).2,s)
 else if o.kind=5 then (⟨true,0,s.mem⟩,s)
 else if o.kind=6 then (⟨true,(zdn s.num s.mem o.a (-1)).1,[(zdn s.num s.mem o.a (-1)).2]⟩,s)
 else if o.kind=7 then (⟨(zsc s o.a o.b).1,(zsc s o.a o.b).2,[]⟩,s)
 else (⟨false,0,[]⟩,s)
section
variable {Q:Nat→SM GateS→Prop} {s:GateS}
theorem ff_setR {κ:Int→Fu (SM GateS)} {p a:Int} (h:∀ x,x≤1000→FF Q (κ (zy9 s p a).1) x ⟨(zy9 s p a).2,fun _=>[]⟩):FF Q (zj2 (idL GateS) p a κ) 0 ⟨s,fun _=>[]⟩:=by
 unfold zj2;unfold zy9 at h;by_cases hb:p < 0∨64≤p
 ·rw [if_pos hb] at h ⊢;exact h 0 (by omega)
 ·rw [if_neg hb] at h ⊢;exact zcw (by omega) (h 1 (by omega))
theorem ff_getR {κ:Int→Int→Fu (SM GateS)} {p:Int} (h:∀ x,x≤1000→FF Q (κ (zsj s p).1 (zsj s p).2) x ⟨s,fun _=>[]⟩):FF Q (zkf (idL GateS) p κ) 0 ⟨s,fun _=>[]⟩:=by
 unfold zkf;unfold zsj at h;by_cases hb:p < 0∨64≤p
 ·rw [if_pos hb] at h ⊢;exact h 0 (by omega)
 ·rw [if_neg hb] at h ⊢;exact zcw (by omega) (h 1 (by omega))
theorem zz4 {κ:Int→Fu (SM GateS)} {p a:Int} (h:∀ x,x≤1000→FF Q (κ (zfm s p a).1) x ⟨(zfm s p a).2,fun _=>[]⟩):FF Q (zeh (idL GateS) 1 p a κ) 0 ⟨s,fun _=>[]⟩:=by
 unfold zfm at h;by_cases hb:p < 0∨64≤p
 ·unfold zeh;rw [if_pos hb] at h ⊢;exact h 0 (by omega)
 ·rw [if_neg hb] at h;by_cases hm:p∈s.mem
  ·rw [if_pos hm] at h;unfold zeh;rw [if_neg hb];unfold zez;refine zcw (by omega) ?_;show FF Q (zex (idL GateS) p a κ _ s.ser s.mem) 1 ⟨s,fun _=>[]⟩;unfold zex;rw [if_pos hm];exact h 1 (by omega)
  ·rw [if_neg hm] at h;exact zre (by omega) (by omega) hm (by omega) (h 3 (by omega))
theorem zxf {κ:Int→Fu (SM GateS)} {p:Int} (h:∀ x,x≤1000→FF Q (κ (zd0 s p).1) x ⟨(zd0 s p).2,fun _=>[]⟩):FF Q (zde (idL GateS) 1 p κ) 0 ⟨s,fun _=>[]⟩:=by
 unfold zd0 at h;unfold zde;by_cases hb:p < 0∨64≤p
 ·rw [if_pos hb] at h ⊢;exact h 0 (by omega)
 ·rw [if_neg hb] at h ⊢;unfold zeb;refine zcw (by omega) ?_;show FF Q (zdf (idL GateS) p κ _ s.ser s.mem) 1 ⟨s,fun _=>[]⟩;unfold zdf;by_cases hm:p∈s.mem
  ·rw [if_pos hm] at h ⊢;refine zcw (by omega) ?_;unfold FF zgt;rw [if_pos (show ((idL GateS).get (SM.mk s fun _=>[]).st).ser=s.ser from rfl)]
   exact h 2 (by omega)
  ·rw [if_neg hm] at h ⊢;exact h 1 (by omega)
theorem zpt {κ:Int→Int→Fu (SM GateS)} {n:Int} (hm:MemOk s.mem) (h:∀ x,x≤1000→FF Q (κ (zdn s.num s.mem n (-1)).1 (zdn s.num s.mem n (-1)).2) x ⟨s,fun _=>[]⟩):FF Q (zew (idL GateS) n κ) 0 ⟨s,fun _=>[]⟩:=by
 refine zcw (by omega) ?_;exact zin s.mem n (-1) 1 hm.2 (by have:=zbj hm;omega) h
theorem ff_mayR {κ:Bool→Int→Fu (SM GateS)} {q size:Int} (hm:MemOk s.mem) (h:∀ x,x≤1000→FF Q (κ (zsc s q size).1 (zsc s q size).2) x ⟨s,fun _=>[]⟩):FF Q (zt1 (idL GateS) q size κ) 0 ⟨s,fun _=>[]⟩:=by
 unfold zt1;refine zpt hm fun x hx=>?_;unfold zsc at h;split
 ·rename_i hc;rw [if_pos hc] at h;exact h x hx
 ·rename_i hc;rw [if_neg hc] at h;exact h x hx
theorem zz5 {Z:Machine→Trace→Prop} {Q2:Nat→SM GateS→Prop} {oo:Os×Array (Nat×ByteArray)} {gb:Nat} {κ:Ans→Fu (SM GateS)} {o:OpD} (hm:MemOk s.mem) (h:∀ x,x≤1000→FF Q (κ (zbi s o).1) x ⟨(zbi s o).2,fun _=>[]⟩):FF Q (callA (zlj (md:=zhr (zhs gb) 0 Z Q2 oo) zpf zia 1) o κ) 0 ⟨s,fun _=>[]⟩:=by
 unfold callA;unfold zbi at h;by_cases k1:o.kind=1
 ·rw [if_pos k1] at h ⊢;exact zz4 h
 rw [if_neg k1] at h ⊢;by_cases k2:o.kind=2
 ·rw [if_pos k2] at h ⊢;exact zxf h
 rw [if_neg k2] at h ⊢;by_cases k3:o.kind=3
 ·rw [if_pos k3] at h ⊢;exact ff_setR h
 rw [if_neg k3] at h ⊢;by_cases k4:o.kind=4
 ·rw [if_pos k4] at h ⊢;exact ff_getR h
 rw [if_neg k4] at h ⊢;by_cases k5:o.kind=5
 ·rw [if_pos k5] at h ⊢;exact zcw (by omega) (h 1 (by omega))
 rw [if_neg k5] at h ⊢;by_cases k6:o.kind=6
 ·rw [if_pos k6] at h ⊢;exact zpt hm h
 rw [if_neg k6] at h ⊢;by_cases k7:o.kind=7
 ·rw [if_pos k7] at h ⊢;exact ff_mayR hm h
 rw [if_neg k7] at h ⊢;exact h 0 (by omega)
end
section
variable {Z:Machine→Trace→Prop} {gb:Nat} {s:GateS} {own:Nat→Owner} {w:World} {c:Frame} {cs:List Frame}
open Classical in
theorem zxw (G0:GW gb s own w) {o:OpD} (ho:o.Ok) (h:∀ own' w' v,GW gb (zbi s o).2 own' w'→Left own own' w w'→LRow .out 0 own' w' v (zbi s o).1.l→(∀ b,v.ownBlock=some b→w.heap.size≤b∨own b ≠ .out)→RM Try.prog Z (G (c.finish (zdp (zbi s o).1 v)) cs) w') :
  RM Try.prog Z (G (Frame.enter Try.prog 21 #[gpv gb,.nilIface,opV o] .normal) (c::cs)) w:=by
 have:=zsu (md:=zhr (zhs gb) 0 Z (fun _ m=>m=⟨(zbi s o).2,fun _=>[]⟩) (w.os,w.output)) (lo:=0) (A:=fun _=>False) (w₀:=⟨w.heap,⟨s,fun _=>[]⟩,zgn own w.heap.size⟩) (c:=c) (cs:=cs) zpf (zlj zpf zia 1) (fun _=>Nat.zero_le _) (κ:=fun r=>if r=(zbi s o).1 then zn6 else ziq) ho trivial (fun r v y own4 w4 m4 C4 hL _ hk hQ=>?_) _ _ _ _ G0.ctx ⟨rfl,rfl⟩ (zz5 G0.rep.mem fun x _=>by rw [if_pos rfl];rfl)
 ·exact this
 ·by_cases hr:r=(zbi s o).1
  ·subst hr;rw [if_pos rfl] at hQ;obtain ⟨G1,L1⟩:=G0.after C4 .refl (show m4=_ from hQ) hk
   have hg:GateAt gb m4.st own4 w4:=C4.rep;refine h _ _ v G1 L1 ⟨hL.row,fun b hb=>?_⟩ fun b hb=>?_
   rotate_left
   ·rcases Nat.lt_or_ge b w.heap.size with z|z
    ·refine .inr fun ho=>?_;have h1:=hL.mine b hb;rw [(C4.tg b 0 (if_pos ⟨ho,z⟩)).1] at h1;cases h1
    ·exact .inl z
   have h1:=hL.mine b hb;have hne:b≠gb:=fun z=>by rw [z,hg.sh] at h1;cases h1
   unfold zgm;rw [if_neg hne,if_neg (by rintro ⟨t,_,z⟩;rw [h1] at z;cases z)]
  ·rw [if_neg hr] at hQ;exact hQ.elim
end
inductive AlS {M:Type}:Nat→M×Co M→M×Co M→Prop
 | zero {p:M×Co M}:AlS 0 p p
 | more {k:Nat} {m:M} {nx:M→M} {mo:M→Co M} {q:M×Co M} (h:AlS k (nx m,mo m) q):AlS (k+1) (m,.step nx mo) q
section
variable {M:Type} {k j:Nat} {p q r:M×Co M} {κ:Fu M} {m:M}
theorem AlS.stepF (h:AlS k (κ m) q):AlS (k+1) (stepF κ m) q:=AlS.more h
theorem AlS.of_eq (h:p=q):AlS 0 p q:=h ▸ .zero
theorem AlS.trans (h:AlS k p q) (h2:AlS j q r):AlS (k+j) p r:=by
 induction h with
 | zero=>rw [Nat.zero_add];exact h2
 | more _ ih=>rw [Nat.succ_add];exact .more (ih h2)
theorem AlS.ff {Q:Nat→M→Prop} (h:AlS k p q):∀ {x:Nat},x+k≤4611686018427387904→FinC Q q.2 (x+k) q.1→FinC Q p.2 x p.1:=by
 induction h with
 | zero=>exact fun _ h=>h
 | more _ ih =>
  intro x hx hQ;refine ⟨by omega,ih (x:=x+1) (by omega) ?_⟩;rwa [show x+1+_=x+(_+1) from by rw [Nat.add_assoc,Nat.add_comm 1]]
end
def ze0 (s:GateS) (o:OpD):Nat :=
 if o.kind=1 then (if o.a < 0∨64≤o.a then 0 else if o.a∈s.mem then 1 else 3)
 else if o.kind=2 then (if o.a < 0∨64≤o.a then 0 else if o.a∈s.mem then 2 else 1)
 else if o.kind=3 then (if o.a < 0∨64≤o.a then 0 else 1)
 else if o.kind=4 then (if o.a < 0∨64≤o.a then 0 else 1)
 else if o.kind=5 then 1
 else if o.kind=6 then 1+s.mem.length
 else if o.kind=7 then 1+s.mem.length
 else 0
section
variable {s:GateS} {an:Nat→List Ans} {p a:Int}
theorem z03 {κ:Int→Fu (SM GateS)}:AlS (if p < 0∨64≤p then 0 else 1) (zj2 (idL GateS) p a κ ⟨s,an⟩) (κ (zy9 s p a).1 ⟨(zy9 s p a).2,an⟩):=by
 unfold zj2 zy9;by_cases hb:p < 0∨64≤p
 ·simp only [if_pos hb];exact .zero
 ·simp only [if_neg hb];exact AlS.stepF .zero
theorem z05 {κ:Int→Int→Fu (SM GateS)}:AlS (if p < 0∨64≤p then 0 else 1) (zkf (idL GateS) p κ ⟨s,an⟩) (κ (zsj s p).1 (zsj s p).2 ⟨s,an⟩):=by
 unfold zkf zsj;by_cases hb:p < 0∨64≤p
 ·simp only [if_pos hb];exact .zero
 ·simp only [if_neg hb];exact AlS.stepF .zero
theorem zx6 {κ:Int→Fu (SM GateS)} {f:Nat}:AlS (if p < 0∨64≤p then 0 else if p∈s.mem then 1 else 3) (zeh (idL GateS) (f+1) p a κ ⟨s,an⟩) (κ (zfm s p a).1 ⟨(zfm s p a).2,an⟩):=by
 unfold zeh zfm;by_cases hb:p < 0∨64≤p
 ·simp only [if_pos hb];exact .zero
 simp only [if_neg hb];unfold zez;by_cases hm:p∈s.mem
 ·simp only [if_pos hm];refine AlS.stepF ?_;show AlS 0 (zex (idL GateS) p a κ _ s.ser s.mem ⟨s,an⟩) _;unfold zex;rw [if_pos hm];exact .zero
 ·simp only [if_neg hm];refine AlS.stepF (k:=2) ?_;show AlS 2 (zex (idL GateS) p a κ _ s.ser s.mem ⟨s,an⟩) _;unfold zex zj2;rw [if_neg hm,if_neg hb];refine AlS.stepF (k:=1) ?_;refine AlS.stepF (k:=0) ?_;refine .of_eq ?_;unfold zgt;exact (if_pos rfl).trans rfl
theorem zs2 {κ:Int→Fu (SM GateS)} {f:Nat}:AlS (if p < 0∨64≤p then 0 else if p∈s.mem then 2 else 1) (zde (idL GateS) (f+1) p κ ⟨s,an⟩) (κ (zd0 s p).1 ⟨(zd0 s p).2,an⟩):=by
 unfold zde zd0;by_cases hb:p < 0∨64≤p
 ·simp only [if_pos hb];exact .zero
 simp only [if_neg hb];unfold zeb;by_cases hm:p∈s.mem
 ·simp only [if_pos hm];refine AlS.stepF (k:=1) ?_;show AlS 1 (zdf (idL GateS) p κ _ s.ser s.mem ⟨s,an⟩) _;unfold zdf;rw [if_pos hm];refine AlS.stepF (k:=0) ?_;refine .of_eq ?_;unfold zgt;exact (if_pos rfl).trans rfl
 ·simp only [if_neg hm];refine AlS.stepF (k:=0) ?_;show AlS 0 (zdf (idL GateS) p κ _ s.ser s.mem ⟨s,an⟩) _;unfold zdf;rw [if_neg hm];exact .zero
theorem zlv {κ:Int→Int→Fu (SM GateS)}:∀ (l:List Int) (n q:Int),(∀ x∈l,0≤x∧x < 64)→AlS l.length (zbo (idL GateS) κ l n q ⟨s,an⟩) (κ (zdn s.num l n q).1 (zdn s.num l n q).2 ⟨s,an⟩)
 | [],n,q,_ => .zero
 | x::l,n,q,hl=>by
  have hx:=hl x (List.mem_cons_self ..);have hb:¬ (x < 0∨64≤x):=by omega
  unfold zbo zdn;unfold zkf;rw [if_neg hb];refine AlS.stepF (k:=l.length) ?_;show AlS l.length ((if q < 0∨s.num x.toNat < n then zbo (idL GateS) κ l (s.num x.toNat) x else zbo (idL GateS) κ l n q) ⟨s,an⟩) _;by_cases hc:q < 0∨s.num x.toNat < n
  ·simp only [if_pos hc];exact zlv l _ _ fun y hy=>hl y (List.mem_cons_of_mem _ hy)
  ·simp only [if_neg hc];exact zlv l _ _ fun y hy=>hl y (List.mem_cons_of_mem _ hy)
theorem zoe (hm:MemOk s.mem) {κ:Int→Int→Fu (SM GateS)} {n:Int}:AlS (1+s.mem.length) (zew (idL GateS) n κ ⟨s,an⟩) (κ (zdn s.num s.mem n (-1)).1 (zdn s.num s.mem n (-1)).2 ⟨s,an⟩):=by
 rw [Nat.add_comm];exact AlS.stepF (zlv s.mem n (-1) hm.2)
theorem z04 (hm:MemOk s.mem) {κ:Bool→Int→Fu (SM GateS)} {q size:Int}:AlS (1+s.mem.length) (zt1 (idL GateS) q size κ ⟨s,an⟩) (κ (zsc s q size).1 (zsc s q size).2 ⟨s,an⟩):=by
 unfold zt1 zsc;refine AlS.trans (j:=0) (zoe hm) (.of_eq ?_);split<;>rfl
theorem zqh (e:Int):zck e=zbq 0 e:=by
 unfold zck zbq;by_cases h:e=0
 ·subst h;rfl
 ·rw [if_neg h,beq_eq_false_iff_ne.2 h]
theorem al_do (hm:MemOk s.mem) (hn:∀ j,j < 64→zen (s.num j)) {f:Nat} {o:OpD} {κ:Ans→Fu (SM GateS)}:AlS (ze0 s o) (doG (idL GateS) (f+1) o κ ⟨s,an⟩) (κ (zbi s o).1 ⟨(zbi s o).2,an⟩):=by
 unfold ze0 doG zbi;by_cases k1:o.kind=1
 ·simp only [if_pos k1,zqh];exact zx6 (κ:=fun e=>κ (zbq 0 e))
 simp only [if_neg k1];by_cases k2:o.kind=2
 ·simp only [if_pos k2,zqh];exact zs2 (κ:=fun e=>κ (zbq 0 e))
 simp only [if_neg k2];by_cases k3:o.kind=3
 ·simp only [if_pos k3,zqh];exact z03 (κ:=fun e=>κ (zbq 0 e))
 simp only [if_neg k3];by_cases k4:o.kind=4
 ·simp only [if_pos k4];refine AlS.trans (j:=0) (z05 (κ:=fun n e=>κ ⟨e==0,ziy e n,[]⟩)) (.of_eq ?_);have e:(⟨(zsj s o.a).2==0,ziy (zsj s o.a).2 (zsj s o.a).1,[]⟩:Ans)=zbq (zsj s o.a).1 (zsj s o.a).2:=by
   unfold zsj;by_cases hb:o.a < 0∨64≤o.a
   ·rw [if_pos hb];show (⟨false,ziy 1 0,[]⟩:Ans)=⟨false,1,[]⟩;have h3:ziy 1 0=1:=by decide +kernel
    rw [h3]
   ·rw [if_neg hb];have h1:=hn o.a.toNat (by omega);show (⟨true,ziy 0 (s.num o.a.toNat),[]⟩:Ans)=⟨true,s.num o.a.toNat,[]⟩;unfold ziy;rw [Int.zero_add];have h2:=h1.1;have h3:=h1.2;congr 1;unfold wrap64;omega
  show κ _ _=κ _ _;rw [e]
 simp only [if_neg k4];by_cases k5:o.kind=5
 ·simp only [if_pos k5];exact AlS.stepF (k:=0) .zero
 simp only [if_neg k5];by_cases k6:o.kind=6
 ·simp only [if_pos k6];exact zoe hm (κ:=fun n p=>κ ⟨true,n,[p]⟩)
 simp only [if_neg k6];by_cases k7:o.kind=7
 ·simp only [if_pos k7];exact z04 hm (κ:=fun t p=>κ ⟨t,p,[]⟩)
 simp only [if_neg k7];exact .zero
theorem al_call {gb:Nat} {md:Md (SM GateS)} (O:md.Ok) (Pt:Part md (idL GateS) (GateAt gb) gb TS2) (hm:MemOk s.mem) {o:OpD} {κ:Ans→Fu (SM GateS)}:AlS (ze0 s o) (callA (zlj O Pt 1) o κ ⟨s,an⟩) (κ (zbi s o).1 ⟨(zbi s o).2,an⟩):=by
 unfold ze0 callA zbi;by_cases k1:o.kind=1
 ·simp only [if_pos k1];exact zx6 (f:=0) (κ:=fun e=>κ (zbq 0 e))
 simp only [if_neg k1];by_cases k2:o.kind=2
 ·simp only [if_pos k2];exact zs2 (f:=0) (κ:=fun e=>κ (zbq 0 e))
 simp only [if_neg k2];by_cases k3:o.kind=3
 ·simp only [if_pos k3];exact z03 (κ:=fun e=>κ (zbq 0 e))
 simp only [if_neg k3];by_cases k4:o.kind=4
 ·simp only [if_pos k4];exact z05 (κ:=fun n e=>κ (zbq n e))
 simp only [if_neg k4];by_cases k5:o.kind=5
 ·simp only [if_pos k5];exact AlS.stepF (k:=0) .zero
 simp only [if_neg k5];by_cases k6:o.kind=6
 ·simp only [if_pos k6];exact zoe hm (κ:=fun n p=>κ ⟨true,n,[p]⟩)
 simp only [if_neg k6];by_cases k7:o.kind=7
 ·simp only [if_pos k7];exact z04 hm (κ:=fun t p=>κ ⟨t,p,[]⟩)
 simp only [if_neg k7];exact .zero
structure GOk (s:GateS):Prop where
 mem:MemOk s.mem
 num:∀ j,j < 64→zen (s.num j)
theorem MemOk.snoc {l:List Int} {x:Int} (h:MemOk l) (hx:x∉l) (h0:0≤x) (h1:x < 64):MemOk (l++[x]):=by
 refine ⟨List.nodup_append.2 ⟨h.1,List.nodup_cons.2 ⟨by simp,List.nodup_nil⟩,fun a ha b hb=>?_⟩,fun y hy=>?_⟩
 ·rw [yaj.1 hb];exact fun e=>hx (e▸ha)
 ·rcases List.mem_append.1 hy with q|q
  ·exact h.2 y q
  ·rw [yaj.1 q];exact ⟨h0,h1⟩
theorem GOk.call (h:GOk s) {o:OpD} (ho:o.Ok):GOk (zbi s o).2:=by
 have hset:∀ (p:Int) (a:Int),zen a→∀ j,j < 64→zen (upd s.num p.toNat a j):=fun p a ha j hj=>by
  by_cases e:j=p.toNat
  ·rw [e,upd_same];exact ha
  ·rw [upd_ne _ _ e];exact h.num j hj
 unfold zbi;by_cases k1:o.kind=1
 ·simp only [if_pos k1];unfold zfm;by_cases hb:o.a < 0∨64≤o.a
  ·rw [if_pos hb];exact h
  rw [if_neg hb];by_cases hm:o.a∈s.mem
  ·rw [if_pos hm];exact h
  rw [if_neg hm];exact ⟨h.mem.snoc hm (by omega) (by omega),hset _ _ ho.b⟩
 simp only [if_neg k1];by_cases k2:o.kind=2
 ·simp only [if_pos k2];unfold zd0;by_cases hb:o.a < 0∨64≤o.a
  ·rw [if_pos hb];exact h
  rw [if_neg hb];by_cases hm:o.a∈s.mem
  ·rw [if_pos hm];exact ⟨zlc h.mem _,h.num⟩
  rw [if_neg hm];exact h
 simp only [if_neg k2];by_cases k3:o.kind=3
 ·simp only [if_pos k3];unfold zy9;by_cases hb:o.a < 0∨64≤o.a
  ·rw [if_pos hb];exact h
  rw [if_neg hb];exact ⟨h.mem,hset _ _ ho.b⟩
 simp only [if_neg k3];split
 ·exact h
 split
 ·exact h
 split
 ·exact h
 split
 ·exact h
 exact h
end
def zjc (s:GateS):List OpD→GateS
 | []=>s
 | o::l=>zjc (zbi s o).2 l
def zuv (s:GateS):List OpD→List Ans
 | []=>[]
 | o::l=>(zbi s o).1::zuv (zbi s o).2 l
def zdx (s:GateS):List OpD→Nat
 | []=>0
 | o::l=>ze0 s o+zdx (zbi s o).2 l
theorem zsz:∀ (l:List OpD) (s:GateS),(zuv s l).length=l.length
 | [],_=>rfl
 | o::l,s=>by simp [zuv,zsz l]
theorem zpa:∀ (l:List OpD) (s:GateS) (o:OpD),zjc s (l++[o])=(zbi (zjc s l) o).2
 | [],_,_=>rfl
 | x::l,s,o=>zpa l _ o
theorem zjk:∀ (l:List OpD) (s:GateS) (o:OpD),zdx s (l++[o])=zdx s l+ze0 (zjc s l) o
 | [],s,o=>by simp [zdx,zjc]
 | x::l,s,o=>by
  show ze0 s x+zdx _ (l++[o])=ze0 s x+zdx _ l+_;rw [zjk l];show _=ze0 s x+zdx _ l+ze0 (zjc (zbi s x).2 l) o;omega
theorem zs0:∀ (l:List OpD) (s:GateS) (j:Nat) (o:OpD),l[j]?=some o→(zuv s l)[j]?=some (zbi (zjc s (l.take j)) o).1
 | [],_,_,_,h=>by simp at h
 | x::l,s,0,o,h=>by
  simp only [yaa,Option.some.injEq] at h;subst h;rfl
 | x::l,s,j+1,o,h=>by
  simp only [yab] at h;show (zuv (zbi s x).2 l)[j]?=_;rw [zs0 l _ j o h];rfl
theorem GOk.run:∀ (l:List OpD) {s:GateS},GOk s→(∀ o∈l,o.Ok)→GOk (zjc s l)
 | [],_,h,_=>h
 | o::l,s,h,hl=>GOk.run l (h.call (hl o (List.mem_cons_self ..))) fun x hx=>hl x (List.mem_cons_of_mem _ hx)
theorem zx5 {f i:Nat}:∀ (l:List OpD) {s:GateS} {an:Nat→List Ans},GOk s→(∀ o∈l,o.Ok)→AlS (zdx s l) (zhq (doG (idL GateS) (f+1)) i l ⟨s,an⟩) (⟨zjc s l,upd an i (an i++zuv s l)⟩,.fin)
 | [],s,an,h,hl=>by
  refine .of_eq ?_;show ((⟨s,an⟩:SM GateS),Co.fin)=_;have e:upd an i (an i++zuv s [])=an:=by
   funext j;by_cases z:j=i
   ·subst z;rw [upd_same];exact List.append_nil _
   ·rw [upd_ne _ _ z]
  rw [e];rfl
 | o::l,s,an,h,hl=>by
  refine AlS.trans (al_do h.mem h.num (κ:=fun r m=>zhq (doG (idL GateS) (f+1)) i l (m.tell i r))) ?_;have:=zx5 (f:=f) (i:=i) l (s:=(zbi s o).2) (an:=upd an i (an i++[(zbi s o).1])) (h.call (hl o (List.mem_cons_self ..))) fun x hx=>hl x (List.mem_cons_of_mem _ hx);rw [upd_same] at this;have e:upd (upd an i (an i++[(zbi s o).1])) i (an i++[(zbi s o).1]++zuv (zbi s o).2 l)=upd an i (an i++zuv s (o::l)):=by
   funext j;by_cases z:j=i
   ·subst z;rw [upd_same,upd_same,List.append_assoc];rfl
   ·rw [upd_ne _ _ z,upd_ne _ _ z,upd_ne _ _ z]
  rw [e] at this;exact this
section
variable {M:Type} {mo:Nat}
theorem zrx {s:GSt M} {nx:M→M} {mm:M→Co M} (h:s.co 0 = .step nx mm) (hl:s.ord.length < mo):zco 1 mo s 0=⟨nx s.m,upd s.co 0 (mm s.m),s.ord++[0]⟩:=by
 unfold zco;rw [if_pos ⟨by omega,by omega,by omega⟩];show (match s.co 0 with | .fin=>s | .cut=>s | .step nx mo=>(⟨nx s.m,upd s.co 0 (mo s.m),s.ord++[0]⟩:GSt M))=_
 rw [h]
theorem zkc (co:Nat→Co M):zbb co 1=if (co 0).isFin then 0 else 1:=by simp [zbb]
theorem ztp {k:Nat} {p q:M×Co M} (h:AlS k p q):∀ (s:GSt M) (f:Nat),q.2 = .fin→p=(s.m,s.co 0)→s.ord.length+k≤mo→k≤f→zcd 1 mo f s=⟨q.1,upd s.co 0 .fin,s.ord++List.replicate k 0⟩:=by
 induction h with
 | @zero p =>
  intro s f hq hp _ _;subst hp;have h0:s.co 0 = .fin:=hq;rw [zk6 (.inl (by rw [zkc,h0];rfl))];have e:upd s.co 0 .fin=s.co:=by
   funext j;by_cases z:j=0
   ·subst z;rw [upd_same,h0]
   ·rw [upd_ne _ _ z]
  rw [e];simp
 | @more k m nx mm q h ih =>
  intro s f hq hp hl hf;obtain ⟨rfl,hc⟩:m=s.m∧Co.step nx mm=s.co 0:=by simpa using hp
  obtain ⟨f,rfl⟩:∃ g,f=g+1:=⟨f - 1,by omega⟩;unfold zcd;rw [if_pos ⟨by rw [zkc,← hc];simp [Co.isFin],by omega⟩];show zcd 1 mo f (zco 1 mo s 0)=_;rw [zrx hc.symm (by omega)];rw [ih ⟨nx s.m,upd s.co 0 (mm s.m),s.ord++[0]⟩ f hq (by dsimp only;rw [upd_same]) (by simp;omega) (by omega)];have e:upd (upd s.co 0 (mm s.m)) 0 .fin=upd s.co 0 .fin:=by
   funext j;by_cases z:j=0
   ·subst z;rw [upd_same,upd_same]
   ·rw [upd_ne _ _ z,upd_ne _ _ z,upd_ne _ _ z]
  show (⟨q.1,upd (upd s.co 0 (mm s.m)) 0 .fin,(s.ord++[0])++List.replicate k 0⟩:GSt M)=_;rw [e,List.append_assoc];rfl
theorem zqy {k:Nat} {p q:M×Co M} (h:AlS k p q):∀ (s:GSt M) (f:Nat),p=(s.m,s.co 0)→s.ord.length≤mo→mo < s.ord.length+k→0 < zbb (zcd 1 mo f s).co 1:=by
 induction h with
 | zero =>
  intro s f hp h1 h2;omega
 | @more k m nx mm q h ih =>
  intro s f hp h1 h2;obtain ⟨rfl,hc⟩:m=s.m∧Co.step nx mm=s.co 0:=by simpa using hp
  have hleft:0 < zbb s.co 1:=by rw [zkc,← hc];simp [Co.isFin]
  rcases Nat.lt_or_ge s.ord.length mo with hl|hl
  ·cases f with
   | zero=>exact hleft
   | succ f =>
    unfold zcd;rw [if_pos ⟨hleft,hl⟩];show 0 < zbb (zcd 1 mo f (zco 1 mo s 0)).co 1;rw [zrx hc.symm hl];exact ih ⟨nx s.m,upd s.co 0 (mm s.m),s.ord++[0]⟩ f (by dsimp only;rw [upd_same]) (by simp;omega) (by simp;omega)
  ·rw [zk6 (.inr hl)];exact hleft
end
theorem zvs:stB [] 0=sG0:=by
 unfold stB sG0;congr 1
theorem gOk0:GOk sG0:=⟨⟨List.nodup_nil,fun _ h=>by cases h⟩,fun j _=>by show zen (-1);constructor<;>decide⟩
theorem trG_one {L:List OpD} (hL:∀ o∈L,o.Ok) (h:zdx sG0 (L.take 65536)≤1048576) :
  trG [] [L] [] 1048576=⟨[zuv sG0 (L.take 65536)],List.replicate (zdx sG0 (L.take 65536)) 0,zd9 (zjc sG0 (L.take 65536)),false⟩:=by
 have hL':∀ o∈L.take 65536,o.Ok:=fun o ho=>hL o (List.mem_of_mem_take ho);have A:=zx5 (f:=1048575) (i:=0) (an:=fun _=>[]) (L.take 65536) gOk0 hL';have e:zfz [] [L] [] 1048576=⟨⟨zjc sG0 (L.take 65536),upd (fun _=>[]) 0 (zuv sG0 (L.take 65536))⟩,upd (upd (fun _ => .fin) 0 (zhq (doG (idL GateS) 1048576) 0 (L.take 65536) ⟨sG0,fun _=>[]⟩).2) 0 .fin,List.replicate (zdx sG0 (L.take 65536)) 0⟩:=by
  unfold zfz zj4 zl4;show zcd 1 1048576 1048576 ⟨(zhq (doG (idL GateS) 1048576) 0 (L.take 65536) ⟨stB [] 0,fun _=>[]⟩).1,upd (fun _ => .fin) 0 (zhq (doG (idL GateS) 1048576) 0 (L.take 65536) ⟨stB [] 0,fun _=>[]⟩).2,[]⟩=_;rw [zvs];exact ztp A _ _ rfl (by dsimp only;rw [upd_same]) (by simpa using h) h
 unfold trG;rw [e];have e2:decide (0 < zbb (upd (upd (fun _=>Co.fin) 0 (zhq (doG (idL GateS) 1048576) 0 (L.take 65536) ⟨sG0,fun _=>[]⟩).2) 0 Co.fin) (min [L].length 64))=false:=by
  show decide (0 < zbb _ 1)=false;rw [zkc,upd_same];rfl
 rw [e2];rfl
theorem zyn {L:List OpD} (hL:∀ o∈L,o.Ok) (h:1048576 < zdx sG0 (L.take 65536)):(trG [] [L] [] 1048576).stuck=true:=by
 have hL':∀ o∈L.take 65536,o.Ok:=fun o ho=>hL o (List.mem_of_mem_take ho);have A:=zx5 (f:=1048575) (i:=0) (an:=fun _=>[]) (L.take 65536) gOk0 hL';show decide (0 < zbb (zfz [] [L] [] 1048576).co 1)=true;refine decide_eq_true ?_;unfold zfz zj4 zl4;show 0 < zbb (zcd 1 1048576 1048576 ⟨(zhq (doG (idL GateS) 1048576) 0 (L.take 65536) ⟨stB [] 0,fun _=>[]⟩).1,upd (fun _ => .fin) 0 (zhq (doG (idL GateS) 1048576) 0 (L.take 65536) ⟨stB [] 0,fun _=>[]⟩).2,[]⟩).co 1;rw [zvs];exact zqy A _ _ (by dsimp only;rw [upd_same]) (by simp) (by simpa using h)
section
variable {S:Type} {md:Md (SM S)} {A:Nat→Prop} {w₀:W0 (SM S)} {c:Frame} {cs:List Frame}
end
section
variable {Z:Machine→Trace→Prop} {w:World} {c:Frame} {cs:List Frame}
end
structure G2 (gz gw:Nat) (s:GateS) (oz ow:Nat→Owner) (w:World):Prop where
 z:GW gz s oz w
 w:GW gw s ow w
 dis:∀ b,oz b = .out∨ow b = .out
section
variable {gz gw:Nat} {s s':GateS} {oz ow oz' ow':Nat→Owner} {w w':World}
theorem GW.lt {gb:Nat} {own:Nat→Owner} (h:GW gb s own w) {b:Nat} (hb:own b ≠ .out):b < w.heap.size:=by
 rcases Nat.lt_or_ge b w.heap.size with z|z
 ·exact z
 ·exact absurd (h.new b z) hb
theorem GW.beside {g1 g2:Nat} {s1 s2:GateS} {o1 o2 o1':Nat→Owner} (h2:GW g2 s2 o2 w) (hd:∀ b,o1 b = .out∨o2 b = .out) (l:Left o1 o1' w w'):GW g2 s2 o2 w'∧∀ b,o1' b = .out∨o2 b = .out:=by
 refine ⟨h2.keep l.size fun b hb ho=>(l.same b hb ((hd b).resolve_right ho)).2,fun b=>?_⟩;by_cases ho:o2 b = .out
 ·exact .inr ho
 ·exact .inl (l.same b (h2.lt ho) ((hd b).resolve_right ho)).1
theorem G2.sim (h:G2 gz gw s oz ow w) (e:w'.heap=w.heap):G2 gz gw s oz ow w' :=
 ⟨h.z.keep (by rw [e];exact yax _) (fun b _ _=>by rw [e]),h.w.keep (by rw [e];exact yax _) (fun b _ _=>by rw [e]),h.dis⟩
theorem G2.low (h:G2 gz gw s oz ow w) (hs:w.heap.size≤w'.heap.size) (hk:∀ b,b < w.heap.size→w'.heap[b]?=w.heap[b]?):G2 gz gw s oz ow w' :=
 ⟨h.z.keep hs fun b hb _=>hk b hb,h.w.keep hs fun b hb _=>hk b hb,h.dis⟩
end
section
variable {P:Program} {D:Nat→Option (Nat×Nat)} {main:Bool} {K:World→Prop} {Still:Loc→Prop} {Inb:Nat→Option Seat} {GO:Goroutine→World→Prop} {b:Frame} {a:Act} {k:List Item} {cs:List Frame} {w:World} {ops:Array Oper}
theorem zml (I:Array Bool→Act→World→Prop) (hend:∀ listed a w,listed.size=ops.size→Region.ready .any ops listed=[]→I listed a w→GO (G (b.at a (.inRegion ops []::k)) cs) w)
  (hstep:∀ listed i,listed.size=ops.size→i∈Region.ready .any ops listed→∀ a w (r:List Nat),I listed a w→(∀ a' w',I (listed.setIfInBounds i true) a' w'→GO (G (b.at a' (.inRegion ops r::k)) cs) w')→GO (G (b.at a (.inRegion ops (i::r)::k)) cs) w) :
  ∀ (g:Nat) (listed:Array Bool) (r:List Nat),listed.size=ops.size→unl listed≤g→r∈zdu .any ops g listed→∀ a w,I listed a w→GO (G (b.at a (.inRegion ops r::k)) cs) w
 | 0,listed,r,hs,hu,hr,a,w,hI=>by
  obtain rfl:r=[]:=by simpa [zdu] using hr
  exact hend _ _ _ hs (zv3 (by omega)) hI
 | g+1,listed,r,hs,hu,hr,a,w,hI=>by
  unfold zdu at hr;cases hrd:Region.ready .any ops listed with
  | nil =>
   rw [hrd] at hr;obtain rfl:r=[]:=by simpa using hr
   exact hend _ _ _ hs hrd hI
  | cons i0 rs =>
   rw [hrd] at hr;simp only at hr;obtain ⟨i,hi,hr⟩:=List.mem_flatMap.1 hr;obtain ⟨r',hr',rfl⟩:=List.mem_map.1 hr;rw [← hrd] at hi;have hun:=zne (mem_ready.1 hi).1;exact hstep _ _ hs hi _ _ _ hI fun a' w' hI'=>zml I hend hstep g _ _ (by simpa using hs) (by omega) hr' _ _ hI'
end
theorem zr3 {P:Program} {Z:Machine→Trace→Prop} {b:Frame} {a:Act} {k:List Item} {cs:List Frame} {w:World} {ops:Array Oper} {id:Nat} (hm:P.follows .mixedOrders=true) (I:Array Bool→Act→World→Prop)
  (h0:I (Array.replicate ops.size false) a w) (hend:∀ listed a w,listed.size=ops.size→Region.ready .any ops listed=[]→I listed a w→RM P Z (G (b.at a (.inRegion ops []::k)) cs) w)
  (hstep:∀ listed i,listed.size=ops.size→i∈Region.ready .any ops listed→∀ a w (r:List Nat),I listed a w→(∀ a' w',I (listed.setIfInBounds i true) a' w'→RM P Z (G (b.at a' (.inRegion ops r::k)) cs) w')→RM P Z (G (b.at a (.inRegion ops (i::r)::k)) cs) w) :
  RM P Z (G (b.at a (.code (.region id ops true)::k)) cs) w :=
 zu2 rm_xc hm (zbt w) fun r hr=>zml I hend hstep _ _ r (by simp) (by
  unfold unl;exact Nat.le_trans (List.countP_le_length) (by simp)) hr a w h0
def Low (w w':World):Prop:=w.heap.size≤w'.heap.size∧(∀ b,b < w.heap.size→w'.heap[b]?=w.heap[b]?)∧w'.os=w.os∧w'.output=w.output
theorem Low.refl (w:World):Low w w:=⟨yax _,fun _ _=>rfl,rfl,rfl⟩
theorem Low.trans {a b c:World} (h:Low a b) (k:Low b c):Low a c:=⟨Nat.le_trans h.1 k.1,fun x hx=>(k.2.1 x (Nat.lt_of_lt_of_le hx h.1)).trans (h.2.1 x hx),k.2.2.1.trans h.2.2.1,k.2.2.2.trans h.2.2.2⟩
theorem Low.re {w w':World} {τ:Nat→Question→Nat} {d:Nat} (h:Low (re τ d w) w'):Low w w':=h
theorem Low.sim {w w' wp:World} (h:Low wp w') (hp:Sim wp w):Low w w':=⟨by rw [← hp.heap];exact h.1,fun b hb=>by rw [← hp.heap] at hb ⊢;exact h.2.1 b hb,h.2.2.1.trans hp.outs.1,h.2.2.2.trans hp.outs.2⟩
theorem LeftW.low {w w':World} (h:LeftW w w'):Low w w':=⟨h.size,h.same,h.outs⟩
theorem Low.left {w w':World} (h:Low w w'):LeftW w w':=⟨h.2.1,h.1,h.2.2⟩
end Go.Proofs.Ytofacoojpgkbiaa
