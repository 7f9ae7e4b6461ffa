/-
  A part of a proof. No condition of its own.
-/
import Derived.Test.YtofacoojpgkbiaaCalsP22
set_option linter.unusedVariables false
set_option maxHeartbeats 8000000
set_option linter.unusedSimpArgs false
namespace Go.Proofs.Ytofacoojpgkbiaa
open Go.Conc Go.RowKit
open Go.ConcN (upd upd_ne upd_same)
set_option maxRecDepth 100000
section
variable {Z:Machine→Trace→Prop} {gb:Nat} {s:GateS} {own:Nat→Owner} {w:World} {c:Frame} {cs:List Frame}
open Classical in
theorem zuc (G0:GW gb s own w) (h:∀ own' w' v,GW gb s own' w'→Left own own' w w'→IntsAt w' v s.mem→(∀ b,zdd v s.mem b→own' b = .out)→(∀ b,zdd v s.mem b→w.heap.size≤b∨own b ≠ .out)→RM Try.prog Z (G (c.finish v) cs) w') :
  RM Try.prog Z (G (Frame.enter Try.prog 86 #[gpv gb,.nilIface] .normal) (c::cs)) w:=by
 have:=zie (md:=zhr (zhs gb) 0 Z (fun _ m=>m=⟨s,fun _=>[]⟩) (w.os,w.output)) (L:=idL GateS) (gb:=gb) (A:=fun _=>False) (w₀:=⟨w.heap,⟨s,fun _=>[]⟩,zgn own w.heap.size⟩) (c:=c) (cs:=cs) zpf zia (κ:=fun l=>if l=s.mem then zn6 else ziq) (φ:=stepF fun m=>(fun l=>if l=s.mem then zn6 else ziq) m.st.mem m) (.inr rfl) trivial (fun l v A₁ w₁ L1 hrow hrb hm y own4 w4 m4 C4 hk hQ=>?_) _ _ _ _ G0.ctx ⟨rfl,rfl⟩ (zcw (by decide) (by show FF _ (if s.mem=s.mem then zn6 else ziq) _ _;rw [if_pos rfl];rfl))
 ·exact this
 ·by_cases hl:l=s.mem
  ·subst hl;rw [if_pos rfl] at hQ;obtain ⟨G1,L2⟩:=G0.after C4 L1 (show m4=_ from hQ) hk
   refine h _ _ v G1 L2 ?_ (fun b hb=>?_) fun b hb=>?_
   ·obtain ⟨_,va,vc,rfl,_,q⟩:=hrow;refine ⟨va,vc,rfl,fun hne=>?_⟩;obtain ⟨b,off,cc,rfl,q1,q2,q3⟩:=q hne;have hb:=(C4.mine b (hrb b ⟨hne,off,_,vc,rfl⟩).1).2.trans q2;exact ⟨b,off,rfl,fun j x hj=>(zac hb _).trans (q3 j x hj)⟩
   ·have h1:=(C4.mine b (hrb b hb).1).1;have hg:GateAt gb m4.st own4 w4:=C4.rep;have hne:b≠gb:=fun z=>by rw [z,hg.sh] at h1;cases h1
    unfold zgm;rw [if_neg hne,if_neg (by rintro ⟨t,_,z⟩;rw [h1] at z;cases z)]
   ·rcases Nat.lt_or_ge b w.heap.size with z|z
    ·refine .inr fun ho=>?_;have h1:=(C4.mine b (hrb b hb).1).1;obtain ⟨q1,_⟩:=L1.tag b 0 (if_pos ⟨ho,z⟩);rw [(C4.tg b 0 q1).1] at h1;cases h1
    ·exact .inl z
  ·rw [if_neg hl] at hQ;exact hQ.elim
theorem zid {gb:Nat} {s:GateS} {own:Nat→Owner} (G0:GW gb s own w) (h:∀ own' w' v,GW gb s own' w'→Left own own' w w'→IntsAt w' v s.mem→(∀ b,zdd v s.mem b→own' b = .out)→(∀ b,zdd v s.mem b→w.heap.size≤b∨own b ≠ .out)→RM Try.prog Z (G (c.finish v) cs) w'):RM Try.prog Z (G (Frame.enter Try.prog 25 #[gpv gb] .normal) (c::cs)) w:=by
 unfold gpv;rw [enter_at _ Try.func25 rfl];simp only [Try.ntmps25,yan,yau,yav,Nat.reduceAdd,Nat.reduceSub,yao,
   yap,yaq,yar,yas,yat]
 replace h:=yay h;refine zae rm_xc fun R1 hR1=>?_;refine zby zlz (zab zah (by kernel_rfl)) rfl (zaa Try.func25) rfl fun wp hp=>?_;replace hp:=yay hp
 go_wp2_with fail
 refine fun w1 h1=>?_;have e1:w1.heap=w.heap:=h1.heap.trans hp.out.heap;have o1:w1.os=w.os∧w1.output=w.output:=⟨h1.outs.1.trans hp.out.outs.1,h1.outs.2.trans hp.out.outs.2⟩;clear h1 hp wp;obtain rfl:=hR1.out;clear hR1;refine zae rm_xc fun R1 hR1=>?_;refine zfl 1 (by decide) (by decide) (zai (by kernel_rfl)) fun wp hp=>?_;simp only [yad,yae];replace hp:=yay hp
 go_wp2_with fail
 refine za4 rfl fun w2 h2=>?_;have e2:w2.heap=w.heap:=h2.heap.trans (hp.out.heap.trans e1);have o2:w2.os=w.os∧w2.output=w.output:=⟨(h2.outs.1.trans hp.out.outs.1).trans o1.1,(h2.outs.2.trans hp.out.outs.2).trans o1.2⟩;clear h2 hp wp e1 o1 w1;refine zat rm_xc rfl rfl (by decide) rfl Try.func86 (by kernel_rfl) (by kernel_rfl) ?_;walk_nrm;have G2:GW gb s own w2:=G0.keep (by rw [e2];exact yax _) fun b _ _=>by rw [e2]
 refine zuc G2 fun own4 w4 v G4 L4 hv hrow hnew=>?_;have hnew':∀ b,zdd v s.mem b→w.heap.size≤b∨own b ≠ .out:=fun b hb=>by have:=hnew b hb;rwa [e2] at this
 clear hnew;obtain ⟨va,vc,rfl⟩:∃ va vc,v = .slice va s.mem.length vc:=by obtain ⟨va,vc,e,_⟩:=hv;exact ⟨va,vc,e⟩
 have L5:Left own own4 w w4:=(Left.mk (fun b _ ho=>⟨ho,by rw [e2]⟩) (by rw [e2];exact yax _) o2:Left own own w w2).trans L4;obtain ⟨n,hn⟩:∃ n,s.mem.length=n:=⟨_,rfl⟩;rw [hn];replace hn:=yay hn;clear L4 G2 e2 o2;rw [Frame.finish_at];walk_nrm;refine zc3 2 1 (by decide) (by decide) (zai (by kernel_rfl)) fun wp hp=>?_;simp only [yaf,yag,yad,yae];replace hp:=yay hp
 go_wp2_with fail
 refine za4 rfl fun w6 h6=>?_;refine zad rm_xc ?_;obtain rfl:=hR1.out;clear hR1;refine zc0 rm_xc ?_;refine za2 rm_xc (zaa Try.func25) (zbt _) (by rw [zcy];exact ⟨rfl,rfl,rfl,_,Try.func25,results_tmp rfl _ _ _⟩) ?_;show RM Try.prog Z (G (Frame.finish _ (.slice va n vc)) cs) w6;have e6:w6.heap=w4.heap:=h6.heap.trans hp.out.heap;have G6:GW gb s own4 w6:=G4.keep (by rw [e6];exact yax _) fun b _ _=>by rw [e6]
 have L6:Left own own4 w w6:=L5.trans ⟨fun b _ ho=>⟨ho,by rw [e6]⟩,by rw [e6];exact yax _,h6.outs.1.trans hp.out.outs.1,h6.outs.2.trans hp.out.outs.2⟩;have:=h.out own4 w6 _ G6 L6 (hv.mono fun b _=>by rw [e6]) hrow hnew';rw [hn.out] at this;exact this
end
theorem za9 {o:Oper} {ops:Array Oper} {tmps:Array Value} {g sl:Nat} {b:Bool} (ho:o.guard=some (g,b)) (hd:(ops[g]?).bind (·.dst)=some sl) (hy:tmps[sl]?=some (.bool b)):Region.wanted o (yielded ops tmps)=true:=by
 unfold Region.wanted yielded;rw [ho];simp only [hd,Option.bind_some,hy];cases b<;>rfl
noncomputable def z0o:Code:=cA (cB (cB tail4))
structure RowO (oz ow:Nat→Owner) (w:World) (v:Value) (l:List Int):Prop where
 at_:IntsAt w v l
 mine:∀ b,zdd v l b→oz b = .out∧ow b = .out
theorem RowO.keep {oz ow oz' ow':Nat→Owner} {w w':World} {v:Value} {l:List Int} (h:RowO oz ow w v l) (hk:∀ b,b < w.heap.size→oz b = .out→ow b = .out→(oz' b = .out∧ow' b = .out)∧w'.heap[b]?=w.heap[b]?):RowO oz' ow' w' v l:=by
 have hlt:∀ b,zdd v l b→b < w.heap.size:=fun b ⟨hne,o,n,c,e⟩=>by
  obtain ⟨a,cap,e',q⟩:=h.at_;obtain ⟨b',o',e1,q1⟩:=q hne;rw [e'] at e;simp only [Value.slice.injEq] at e;rw [e1] at e;simp only [Option.some.injEq,Addr.mk.injEq] at e;obtain ⟨x,l',rfl⟩:=List.exists_cons_of_ne_nil hne;have:=World.block_lt_of_cell? w _ (q1 0 x rfl);obtain ⟨⟨e5,_⟩,_⟩:=e;rw [← e5];exact this
 obtain ⟨a,cap,e,q⟩:=h.at_;refine ⟨⟨a,cap,e,fun hne=>?_⟩,fun b hb=>(hk b (hlt b hb) (h.mine b hb).1 (h.mine b hb).2).1⟩;obtain ⟨b,o,e1,q1⟩:=q hne;have hr:zdd v l b:=⟨hne,o,_,_,by rw [e,e1]⟩;exact ⟨b,o,e1,fun j x hj=>(World.cell?_of_block (w:=w) (hk b (hlt b hr) (h.mine b hr).1 (h.mine b hr).2).2).trans (q1 j x hj)⟩
theorem RowA.ints {oz ow:Nat→Owner} {w:World} {v:Value} {l:List Int} (h:RowA oz ow w v l):IntsAt w v l:=zdo h.row
section
variable {w0 w w':World} {gz gw sb n:Nat} {sz sw s':GateS} {oz ow o':Nat→Owner}
theorem CS.stepW (h:CS w0 gz gw sb n sz sw oz ow w) (g:GW gw s' o' w') (l:Left ow o' w w'):CS w0 gz gw sb n sz s' oz o' w' :=
 ⟨h.ns.stepW g l,h.sz,(l.same sb h.lt h.sw).1,h.lo,(l.same sb h.lt h.sw).2.trans h.cnt⟩
end
def tv14 (gz gw sb N bs os sl cst m:Nat) (vo:Value) (ol:Nat):Nat→Option Value
 | 0=>some (gpv gz)|3=>some (.pointer (some ⟨N,2,none⟩))|4=>some (.slice (some ⟨bs,os,none⟩) sl cst)|5=>some (.int .i64 m)|6=>some (.int .i64 ((m+1:Nat):Int))|7=>some (.slice (some ⟨bs,os+1,none⟩) m (cst - 1))|8=>some (.bool true)|9=>some (.bool true)
 | 10=>some (gpv gz)|12=>some (.pointer (some ⟨N,2,none⟩))|13=>some (.slice (some ⟨bs,os,none⟩) sl cst)|14=>some (.int .i64 m)|15=>some (.int .i64 ((m+1:Nat):Int))|16=>some (.slice (some ⟨bs,os+(m+1),none⟩) (sl - (m+1)) (cst - (m+1)))|17=>some (.bool true)|18=>some (.bool true)|19=>some (.bool true)
 | 20=>some (gpv gw)|23=>some (.pointer (some ⟨N,2,none⟩))|24=>some (.slice (some ⟨bs,os,none⟩) sl cst)|25=>some (.int .i64 m)|26=>some (.int .i64 ((m+1:Nat):Int))|27=>some (.slice (some ⟨bs,os+1,none⟩) m (cst - 1))|28=>some (.bool true)|29=>some (.bool true)|30=>some (.bool true)
 | 31=>some (.pointer (some ⟨sb,0,none⟩))|32=>some (.pointer (some ⟨sb,0,none⟩))|33=>some (.pointer (some ⟨sb,0,none⟩))|34=>some (.int .i64 ol)|35=>some (.pointer (some ⟨N,1,none⟩))|36=>some vo|37=>some (.int .i64 ol)|38=>some (.bool true)|39=>some (.bool true)
 | _=>none
structure I40 (w0:World) (gz gw sb ol:Nat) (s:GateS) (tv:Nat→Option Value) (z:Nat→Value) (listed:Array Bool) (x:Nat→Value) (oz ow:Nat→Owner) (w:World):Prop where
 xs:∀ j,3≤j→j < 11→x j=z j
 tab:Tab tv 79 listed x
 cs:CS w0 gz gw sb ol s s oz ow w
 c1:listed.getD 1 false=true→RowO oz ow w (x 80) s.mem
 c2:listed.getD 2 false=true→RowA oz ow w (x 81) s.mem
 c11:listed.getD 11 false=true→RowA oz ow w (x 90) (zdq s.num 64)
 c21:listed.getD 21 false=true→RowO oz ow w (x 100) s.mem
 c22:listed.getD 22 false=true→RowA oz ow w (x 101) s.mem
 d:listed.getD 40 false=true→x 2 = .bool true
section
variable {w0 w w':World} {gz gw sb ol:Nat} {s:GateS} {tv:Nat→Option Value} {z x:Nat→Value} {listed:Array Bool} {oz ow oz' ow':Nat→Owner}
theorem I40.put (h:I40 w0 gz gw sb ol s tv z listed x oz ow w) {i:Nat} {u:Value} (hi:i < 40) (ht:tv i=some u∨tv i=none) (h1:i=1→RowO oz ow w u s.mem) (h2:i=2→RowA oz ow w u s.mem) (h11:i=11→RowA oz ow w u (zdq s.num 64)) (h21:i=21→RowO oz ow w u s.mem) (h22:i=22→RowA oz ow w u s.mem) :
  I40 w0 gz gw sb ol s tv z (listed.setIfInBounds i true) (upd x (79+i) u) oz ow w:=by
 refine ⟨fun j h3 hj=>by rw [upd_ne _ _ (by omega)];exact h.xs j h3 hj,h.tab.put ht,h.cs,fun q=>?_,fun q=>?_,fun q=>?_,fun q=>?_,fun q=>?_,fun q=>by rw [upd_ne _ _ (by omega)];exact h.d (by rwa [zaf (by omega)] at q)⟩
 ·by_cases e:i=1
  ·subst e;rw [upd_same];exact h1 rfl
  ·rw [upd_ne _ _ (by omega)];exact h.c1 (by rwa [zaf (by omega)] at q)
 ·by_cases e:i=2
  ·subst e;rw [upd_same];exact h2 rfl
  ·rw [upd_ne _ _ (by omega)];exact h.c2 (by rwa [zaf (by omega)] at q)
 ·by_cases e:i=11
  ·subst e;rw [upd_same];exact h11 rfl
  ·rw [upd_ne _ _ (by omega)];exact h.c11 (by rwa [zaf (by omega)] at q)
 ·by_cases e:i=21
  ·subst e;rw [upd_same];exact h21 rfl
  ·rw [upd_ne _ _ (by omega)];exact h.c21 (by rwa [zaf (by omega)] at q)
 ·by_cases e:i=22
  ·subst e;rw [upd_same];exact h22 rfl
  ·rw [upd_ne _ _ (by omega)];exact h.c22 (by rwa [zaf (by omega)] at q)
theorem I40.putp (h:I40 w0 gz gw sb ol s tv z listed x oz ow w) {i:Nat} {u:Value} (hi:i < 40∧i≠1∧i≠2∧i≠11∧i≠21∧i≠22) (ht:tv i=some u):I40 w0 gz gw sb ol s tv z (listed.setIfInBounds i true) (upd x (79+i) u) oz ow w :=
 h.put hi.1 (.inl ht) (fun z=>absurd z hi.2.1) (fun z=>absurd z hi.2.2.1) (fun z=>absurd z hi.2.2.2.1) (fun z=>absurd z hi.2.2.2.2.1) (fun z=>absurd z hi.2.2.2.2.2)
theorem I40.world (h:I40 w0 gz gw sb ol s tv z listed x oz ow w) (hc:CS w0 gz gw sb ol s s oz' ow' w') (hk:∀ b,b < w.heap.size→oz b = .out→ow b = .out→(oz' b = .out∧ow' b = .out)∧w'.heap[b]?=w.heap[b]?):I40 w0 gz gw sb ol s tv z listed x oz' ow' w' :=
 ⟨h.xs,h.tab,hc,fun q=>(h.c1 q).keep hk,fun q=>(h.c2 q).keep hk,fun q=>(h.c11 q).keep hk,fun q=>(h.c21 q).keep hk,fun q=>(h.c22 q).keep hk,h.d⟩
theorem I40.left (h:I40 w0 gz gw sb ol s tv z listed x oz ow w) (l:LeftW w w'):I40 w0 gz gw sb ol s tv z listed x oz ow w':=h.world (h.cs.left l) (hk_left l)
end
section
variable {Z:Machine→Trace→Prop} {cs:List Frame} {w0 W:World} {gz gw sb N bs os sl cst m ol co:Nat} {po:Option Addr} {s:GateS} {va:Value} {st:Bool} {z:Nat→Value} {oz ow:Nat→Owner} {R:List Item}
theorem end14 (z3:z 3 = .pointer (some ⟨N,0,none⟩)) (z4:z 4=gpv gz) (z5:z 5=gpv gw) (z6:z 6 = .pointer (some ⟨sb,0,none⟩)) (z10:z 10 = .int .i64 m) (hm:s.mem.length=m) (hsl:sl=m+65) (hcst:sl≤cst) (hc9:cst≤9223372036854775807) (hol:ol≤4611686018427387904)
  (hN:w0.heap[N]?=some (.cells #[va,.slice po ol co,.slice (some ⟨bs,os,none⟩) sl cst,.bool st] 31 (0,0))) (hA:IntsAt w0 (.slice (some ⟨bs,os+1,none⟩) m (cst - 1)) s.mem) (hB:IntsAt w0 (.slice (some ⟨bs,os+(m+1),none⟩) (sl - (m+1)) (cst - (m+1))) (zdq s.num 64)) (I:CS w0 gz gw sb ol s s oz ow W)
  (hret:∀ x w',x 2 = .bool true→LeftW w0 w'→RM Try.prog Z (G ((base 4).at (A4 x) R) cs) w') :
  RM Try.prog Z (G ((base 4).at (A4 z) (.code z0o::R)) cs) W:=by
 have hr':=yay hret;clear hret;have n2:=zac hN 2;have n1:=zac hN 1;simp only [yac,yaa,yab] at n1 n2;have hm64:m≤64:=by rw [← hm];exact zbj I.ns.z.rep.mem
 have e1:IntKind.i64.wrap ((1:Int)+(m:Int))=((m+1:Nat):Int):=by rw [IntKind.wrap_i64];omega
 have e1':IntKind.i64.wrap ((m:Int)+1)=((m+1:Nat):Int):=by rw [IntKind.wrap_i64];omega
 have l1:(m+1:Nat)≤cst:=by omega
 have l2:((m+1:Nat):Int)≤(cst:Int):=by omega
 have l3:((m+1:Nat):Int)≤(sl:Int):=by omega
 have l4:(0:Int)≤((m+1:Nat):Int):=by omega
 have l5:(1:Int)≤((m+1:Nat):Int):=by omega
 have l6:(sl:Int)≤(cst:Int):=by omega
 have l2':(m:Int)+1≤(cst:Int):=by omega
 have l3':(m:Int)+1≤(sl:Int):=by omega
 have l4':(0:Int)≤(m:Int)+1:=by omega
 have l5':(1:Int)≤(m:Int)+1:=by omega
 have l7:¬ cst=1:=by omega
 have l8:¬ cst=m+1:=by omega
 replace hN:=yay hN;replace hA:=yay hA;replace hB:=yay hB;rw [show z0o=Code.region _ _ _ from rfl]
 refine zr3 rfl (fun listed a w=>∃ x oz ow,a=A4 x∧I40 w0 gz gw sb ol s (tv14 gz gw sb N bs os sl cst m (.slice po ol co) ol) z listed x oz ow w) ?i0 ?ie ?ist
 case i0=>exact ⟨z,oz,ow,rfl,fun _ _ _=>rfl,.zero,I,zn9x,zn9x,zn9x,zn9x,zn9x,zn9x⟩
 case ie =>
  rintro listed a w hsz hrd ⟨x,oz,ow,rfl,hI⟩;have hall:=zjn (zwm (by kernel_rfl)) hsz hrd;have h2:=hI.d (hall 40 (by decide));refine zad rm_xc ?_;exact hr'.out x w h2 hI.cs.ns.l
 case ist =>
  rintro listed i hsz hir a w3 rr ⟨x,oz3,ow3,rfl,hI⟩ hnext;obtain ⟨hun,op,hop,hdep⟩:=mem_ready.1 hir;have hi41:i < 41:=by
   have:=(yah.1 hop).1
   simpa using this
  have x3:=(hI.xs 3 (by decide) (by decide)).trans z3;have x4:=(hI.xs 4 (by decide) (by decide)).trans z4;have x5:=(hI.xs 5 (by decide) (by decide)).trans z5;have x6:=(hI.xs 6 (by decide) (by decide)).trans z6;have x10:=(hI.xs 10 (by decide) (by decide)).trans z10;have cc:Hid (∀ (a:Addr) v,w0.cell? a=some v→∀ wp:World,Sim wp w3→wp.cell? a=some v):=yay fun a v q wp hp=>by
   refine (World.cell?_of_block (w:=w0) ?_).trans q;show wp.heap[a.block]?=w0.heap[a.block]?;rw [hp.heap];exact hI.cs.ns.l.same _ (World.block_lt_of_cell? w0 _ q)
  have kc:Hid (∀ wp:World,Sim wp w3→wp.cell? ⟨sb,0,none⟩=some (.int .i64 ol)):=yay fun wp hp=>zac ((congrArg (·[sb]?) hp.heap).trans hI.cs.cnt) 0;replace n1:=yay n1;replace n2:=yay n2;have hcase:i=0∨i=1∨i=2∨i=3∨i=4∨i=5∨i=6∨i=7∨i=8∨i=9∨i=10∨i=11∨i=12∨i=13∨i=14∨i=15∨i=16∨i=17∨i=18∨i=19∨i=20∨i=21∨i=22∨i=23∨i=24∨i=25∨i=26∨i=27∨i=28∨i=29∨i=30∨i=31∨i=32∨i=33∨i=34∨i=35∨i=36∨i=37∨i=38∨i=39∨i=40:=by omega
  rcases hcase with rfl|rfl|rfl|rfl|rfl|rfl|rfl|rfl|rfl|rfl|rfl|rfl|rfl|rfl|rfl|rfl|rfl|rfl|rfl|rfl|rfl|rfl|rfl|rfl|rfl|rfl|rfl|rfl|rfl|rfl|rfl|rfl|rfl|rfl|rfl|rfl|rfl|rfl|rfl|rfl|rfl
  ·refine za0 rfl rfl (by decide) (zai (l:=[_]) (by kernel_rfl) _ (yaj.2 rfl)) (v:=gpv gz) (fun wp hp=>by
    unfold A4
    try unfold gpv at *
    go_simp<;>rfl) ?_
   exact hnext _ w3 ⟨upd x 79 _,oz3,ow3,rfl,hI.putp (by decide) rfl⟩
  ·have hop':=yaw hop;subst hop';have t0:=hI.tab.at (s:=79) (hdep ⟨0,.data⟩ (by simp) rfl) rfl rfl;refine zat rm_xc rfl rfl (by decide) rfl Try.func25 (by kernel_rfl) (by kernel_rfl) ?_;walk_nrm;show RM _ _ (G (Frame.enter Try.prog 25 #[x 79] .normal) _) w3;rw [t0];refine zid hI.cs.ns.z fun oz4 w4 v G4 L4 hv hrow hnew=>?_;rw [Frame.finish_at];have hcs:=hI.cs.stepZ G4 L4;have hk:=hk_Z (oz:=oz3) (ow:=ow3) L4;have hI4:=hI.world hcs hk;exact hnext (A4 (upd x 80 v)) w4 ⟨_,oz4,ow3,rfl,hI4.put (i:=1) (by omega) (.inr rfl) (fun _=>⟨hv,fun b hb=>⟨hrow b hb,(hnew b hb).elim (hI.cs.ns.wt.new b) fun q=>(hI.cs.ns.dis b).resolve_left q⟩⟩) (fun z=>by omega) (fun z=>by omega) (fun z=>by omega) (fun z=>by omega)⟩
  ·have hop':=yaw hop;subst hop';have d1:listed.getD 1 false=true:=hdep ⟨1,.data⟩ (by simp) rfl;have r1:=hI.c1 d1;refine zat rm_xc rfl rfl (by decide) rfl Try.func24 (by kernel_rfl) (by kernel_rfl) ?_;walk_nrm;show RM _ _ (G (Frame.enter Try.prog 24 #[x 80] .normal) _) w3;refine zop r1.at_ (by omega) fun v w4 L4 hr=>?_;rw [Frame.finish_at];have hI4:=hI.left L4;exact hnext (A4 (upd x 81 v)) w4 ⟨_,oz3,ow3,rfl,hI4.put (i:=2) (by omega) (.inr rfl) (fun z=>by omega) (fun _=>znq hr hI.cs.ns.z.new hI.cs.ns.wt.new) (fun z=>by omega) (fun z=>by omega) (fun z=>by omega)⟩
  ·refine za0 rfl rfl (by decide) (zai (l:=[_]) (by kernel_rfl) _ (yaj.2 rfl)) (v := .pointer (some ⟨N,2,none⟩)) (fun wp hp=>by
    unfold A4
    try unfold gpv at *
    go_simp<;>rfl) ?_
   exact hnext _ w3 ⟨upd x 82 _,oz3,ow3,rfl,hI.putp (by decide) rfl⟩
  ·have hop':=yaw hop;subst hop';have t3:=hI.tab.at (s:=82) (hdep ⟨3,.data⟩ (by simp) rfl) rfl rfl;refine za0 rfl rfl (by decide) (zai (l:=[_]) (by kernel_rfl) _ (yaj.2 rfl)) (v := .slice (some ⟨bs,os,none⟩) sl cst) (fun wp hp=>by
    have q2:=cc.out _ _ n2.out wp hp;unfold A4
    try unfold gpv at *
    go_simp<;>rfl) ?_
   exact hnext _ w3 ⟨upd x 83 _,oz3,ow3,rfl,hI.putp (by decide) rfl⟩
  ·refine za0 rfl rfl (by decide) (zai (l:=[_]) (by kernel_rfl) _ (yaj.2 rfl)) (v := .int .i64 m) (fun wp hp=>by
    unfold A4
    try unfold gpv at *
    go_simp<;>rfl) ?_
   exact hnext _ w3 ⟨upd x 84 _,oz3,ow3,rfl,hI.putp (by decide) rfl⟩
  ·have hop':=yaw hop;subst hop';have t5:=hI.tab.at (s:=84) (hdep ⟨5,.data⟩ (by simp) rfl) rfl rfl;refine za0 rfl rfl (by decide) (zai (l:=[_]) (by kernel_rfl) _ (yaj.2 rfl)) (v := .int .i64 ((m+1:Nat):Int)) (fun wp hp=>by
    unfold A4
    try unfold gpv at *
    go_simp<;>rfl) ?_
   exact hnext _ w3 ⟨upd x 85 _,oz3,ow3,rfl,hI.putp (by decide) rfl⟩
  ·have hop':=yaw hop;subst hop';have t4:=hI.tab.at (s:=83) (hdep ⟨4,.data⟩ (by simp) rfl) rfl rfl;have t6:=hI.tab.at (s:=85) (hdep ⟨6,.data⟩ (by simp) rfl) rfl rfl;refine za0 rfl rfl (by decide) (zai (l:=[_]) (by kernel_rfl) _ (yaj.2 rfl)) (v := .slice (some ⟨bs,os+1,none⟩) m (cst - 1)) (fun wp hp=>by
    unfold A4
    try unfold gpv at *
    go_simp<;>rfl) ?_
   exact hnext _ w3 ⟨upd x 86 _,oz3,ow3,rfl,hI.putp (by decide) rfl⟩
  ·have hop':=yaw hop;subst hop';have d2:listed.getD 2 false=true:=hdep ⟨2,.data⟩ (by simp) rfl;have r2:=hI.c2 d2;have t7:=hI.tab.at (s:=86) (hdep ⟨7,.data⟩ (by simp) rfl) rfl rfl;refine zat rm_xc rfl rfl (by decide) rfl Try.func23 (by kernel_rfl) (by kernel_rfl) ?_;walk_nrm;show RM _ _ (G (Frame.enter Try.prog 23 #[x 81,x 86] .normal) _) w3;rw [t7];refine zjb r2.ints (hA.out.mono hI.cs.ns.l.same) (by omega) fun w4 L4=>?_;rw [Frame.finish_at];have hI4:=hI.left L4;exact hnext (A4 (upd x 87 (.bool true))) w4 ⟨_,oz3,ow3,rfl,hI4.put (i:=8) (by omega) (.inl rfl) (fun z=>by omega) (fun z=>by omega) (fun z=>by omega) (fun z=>by omega) (fun z=>by omega)⟩
  ·have hop':=yaw hop;subst hop';have t8:=hI.tab.at (s:=87) (hdep ⟨8,.data⟩ (by simp) rfl) rfl rfl;refine za0 rfl rfl (by decide) (zai (l:=[_]) (by kernel_rfl) _ (yaj.2 rfl)) (v := .bool true) (fun wp hp=>by
    unfold A4
    try unfold gpv at *
    go_simp<;>rfl) ?_
   exact hnext _ w3 ⟨upd x 88 _,oz3,ow3,rfl,hI.putp (by decide) rfl⟩
  ·have hop':=yaw hop;subst hop';have tg:=hI.tab.at (s:=88) (hdep ⟨9,.guard⟩ (by simp) rfl) rfl rfl;refine za0 rfl (za9 (g:=9) (sl:=88) (b:=true) rfl rfl (congrArg some tg)) (by decide) (zai (l:=[_]) (by kernel_rfl) _ (yaj.2 rfl)) (v:=gpv gz) (fun wp hp=>by
    unfold A4
    try unfold gpv at *
    go_simp<;>rfl) ?_
   exact hnext _ w3 ⟨upd x 89 _,oz3,ow3,rfl,hI.putp (by decide) rfl⟩
  ·have hop':=yaw hop;subst hop';have t10:=hI.tab.at (s:=89) (hdep ⟨10,.data⟩ (by simp) rfl) rfl rfl;have tg:=hI.tab.at (s:=88) (hdep ⟨9,.guard⟩ (by simp) rfl) rfl rfl;refine zat rm_xc rfl (za9 (g:=9) (sl:=88) (b:=true) rfl rfl (congrArg some tg)) (by decide) rfl Try.func26 (by kernel_rfl) (by kernel_rfl) ?_;walk_nrm;show RM _ _ (G (Frame.enter Try.prog 26 #[x 89] .normal) _) w3;rw [t10];refine zpe hI.cs.ns.z fun v w4 L4 hr=>?_;rw [Frame.finish_at];have hI4:=hI.left L4;exact hnext (A4 (upd x 90 v)) w4 ⟨_,oz3,ow3,rfl,hI4.put (i:=11) (by omega) (.inr rfl) (fun z=>by omega) (fun z=>by omega) (fun _=>znq hr hI.cs.ns.z.new hI.cs.ns.wt.new) (fun z=>by omega) (fun z=>by omega)⟩
  ·have hop':=yaw hop;subst hop';have tg:=hI.tab.at (s:=88) (hdep ⟨9,.guard⟩ (by simp) rfl) rfl rfl;refine za0 rfl (za9 (g:=9) (sl:=88) (b:=true) rfl rfl (congrArg some tg)) (by decide) (zai (l:=[_]) (by kernel_rfl) _ (yaj.2 rfl)) (v := .pointer (some ⟨N,2,none⟩)) (fun wp hp=>by
    unfold A4
    try unfold gpv at *
    go_simp<;>rfl) ?_
   exact hnext _ w3 ⟨upd x 91 _,oz3,ow3,rfl,hI.putp (by decide) rfl⟩
  ·have hop':=yaw hop;subst hop';have t12:=hI.tab.at (s:=91) (hdep ⟨12,.data⟩ (by simp) rfl) rfl rfl;have tg:=hI.tab.at (s:=88) (hdep ⟨9,.guard⟩ (by simp) rfl) rfl rfl;refine za0 rfl (za9 (g:=9) (sl:=88) (b:=true) rfl rfl (congrArg some tg)) (by decide) (zai (l:=[_]) (by kernel_rfl) _ (yaj.2 rfl)) (v := .slice (some ⟨bs,os,none⟩) sl cst) (fun wp hp=>by
    have q2:=cc.out _ _ n2.out wp hp;unfold A4
    try unfold gpv at *
    go_simp<;>rfl) ?_
   exact hnext _ w3 ⟨upd x 92 _,oz3,ow3,rfl,hI.putp (by decide) rfl⟩
  ·have hop':=yaw hop;subst hop';have tg:=hI.tab.at (s:=88) (hdep ⟨9,.guard⟩ (by simp) rfl) rfl rfl;refine za0 rfl (za9 (g:=9) (sl:=88) (b:=true) rfl rfl (congrArg some tg)) (by decide) (zai (l:=[_]) (by kernel_rfl) _ (yaj.2 rfl)) (v := .int .i64 m) (fun wp hp=>by
    unfold A4
    try unfold gpv at *
    go_simp<;>rfl) ?_
   exact hnext _ w3 ⟨upd x 93 _,oz3,ow3,rfl,hI.putp (by decide) rfl⟩
  ·have hop':=yaw hop;subst hop';have t14:=hI.tab.at (s:=93) (hdep ⟨14,.data⟩ (by simp) rfl) rfl rfl;have tg:=hI.tab.at (s:=88) (hdep ⟨9,.guard⟩ (by simp) rfl) rfl rfl;refine za0 rfl (za9 (g:=9) (sl:=88) (b:=true) rfl rfl (congrArg some tg)) (by decide) (zai (l:=[_]) (by kernel_rfl) _ (yaj.2 rfl)) (v := .int .i64 ((m+1:Nat):Int)) (fun wp hp=>by
    unfold A4
    try unfold gpv at *
    go_simp<;>rfl) ?_
   exact hnext _ w3 ⟨upd x 94 _,oz3,ow3,rfl,hI.putp (by decide) rfl⟩
  ·have hop':=yaw hop;subst hop';have t13:=hI.tab.at (s:=92) (hdep ⟨13,.data⟩ (by simp) rfl) rfl rfl;have t15:=hI.tab.at (s:=94) (hdep ⟨15,.data⟩ (by simp) rfl) rfl rfl;have tg:=hI.tab.at (s:=88) (hdep ⟨9,.guard⟩ (by simp) rfl) rfl rfl;refine za0 rfl (za9 (g:=9) (sl:=88) (b:=true) rfl rfl (congrArg some tg)) (by decide) (zai (l:=[_]) (by kernel_rfl) _ (yaj.2 rfl)) (v := .slice (some ⟨bs,os+(m+1),none⟩) (sl - (m+1)) (cst - (m+1))) (fun wp hp=>by
    unfold A4
    try unfold gpv at *
    go_simp<;>rfl) ?_
   exact hnext _ w3 ⟨upd x 95 _,oz3,ow3,rfl,hI.putp (by decide) rfl⟩
  ·have hop':=yaw hop;subst hop';have d11:listed.getD 11 false=true:=hdep ⟨11,.data⟩ (by simp) rfl;have r11:=hI.c11 d11;have t16:=hI.tab.at (s:=95) (hdep ⟨16,.data⟩ (by simp) rfl) rfl rfl;have tg:=hI.tab.at (s:=88) (hdep ⟨9,.guard⟩ (by simp) rfl) rfl rfl;refine zat rm_xc rfl (za9 (g:=9) (sl:=88) (b:=true) rfl rfl (congrArg some tg)) (by decide) rfl Try.func23 (by kernel_rfl) (by kernel_rfl) ?_;walk_nrm;show RM _ _ (G (Frame.enter Try.prog 23 #[x 90,x 95] .normal) _) w3;rw [t16];refine zjb r11.ints (hB.out.mono hI.cs.ns.l.same) (by simp [zdq]) fun w4 L4=>?_;rw [Frame.finish_at];have hI4:=hI.left L4;exact hnext (A4 (upd x 96 (.bool true))) w4 ⟨_,oz3,ow3,rfl,hI4.put (i:=17) (by omega) (.inl rfl) (fun z=>by omega) (fun z=>by omega) (fun z=>by omega) (fun z=>by omega) (fun z=>by omega)⟩
  ·have hop':=yaw hop;subst hop';have t9:=hI.tab.at (s:=88) (hdep ⟨9,.data⟩ (by simp) rfl) rfl rfl;have t17:=hI.tab.at (s:=96) (hdep ⟨17,.data⟩ (by simp) rfl) rfl rfl;refine za0 rfl rfl (by decide) (zai (l:=[_]) (by kernel_rfl) _ (yaj.2 rfl)) (v := .bool true) (fun wp hp=>by
    unfold A4
    try unfold gpv at *
    go_simp<;>rfl) ?_
   exact hnext _ w3 ⟨upd x 97 _,oz3,ow3,rfl,hI.putp (by decide) rfl⟩
  ·have hop':=yaw hop;subst hop';have t18:=hI.tab.at (s:=97) (hdep ⟨18,.data⟩ (by simp) rfl) rfl rfl;refine za0 rfl rfl (by decide) (zai (l:=[_]) (by kernel_rfl) _ (yaj.2 rfl)) (v := .bool true) (fun wp hp=>by
    unfold A4
    try unfold gpv at *
    go_simp<;>rfl) ?_
   exact hnext _ w3 ⟨upd x 98 _,oz3,ow3,rfl,hI.putp (by decide) rfl⟩
  ·have hop':=yaw hop;subst hop';have tg:=hI.tab.at (s:=98) (hdep ⟨19,.guard⟩ (by simp) rfl) rfl rfl;refine za0 rfl (za9 (g:=19) (sl:=98) (b:=true) rfl rfl (congrArg some tg)) (by decide) (zai (l:=[_]) (by kernel_rfl) _ (yaj.2 rfl)) (v:=gpv gw) (fun wp hp=>by
    unfold A4
    try unfold gpv at *
    go_simp<;>rfl) ?_
   exact hnext _ w3 ⟨upd x 99 _,oz3,ow3,rfl,hI.putp (by decide) rfl⟩
  ·have hop':=yaw hop;subst hop';have t20:=hI.tab.at (s:=99) (hdep ⟨20,.data⟩ (by simp) rfl) rfl rfl;have tg:=hI.tab.at (s:=98) (hdep ⟨19,.guard⟩ (by simp) rfl) rfl rfl;refine zat rm_xc rfl (za9 (g:=19) (sl:=98) (b:=true) rfl rfl (congrArg some tg)) (by decide) rfl Try.func25 (by kernel_rfl) (by kernel_rfl) ?_;walk_nrm;show RM _ _ (G (Frame.enter Try.prog 25 #[x 99] .normal) _) w3;rw [t20];refine zid hI.cs.ns.wt fun ow4 w4 v G4 L4 hv hrow hnew=>?_;rw [Frame.finish_at];have hcs:=hI.cs.stepW G4 L4;have hk:=hk_W (oz:=oz3) (ow:=ow3) L4;have hI4:=hI.world hcs hk;exact hnext (A4 (upd x 100 v)) w4 ⟨_,oz3,ow4,rfl,hI4.put (i:=21) (by omega) (.inr rfl) (fun z=>by omega) (fun z=>by omega) (fun z=>by omega) (fun _=>⟨hv,fun b hb=>⟨(hnew b hb).elim (hI.cs.ns.z.new b) fun q=>(hI.cs.ns.dis b).resolve_right q,hrow b hb⟩⟩) (fun z=>by omega)⟩
  ·have hop':=yaw hop;subst hop';have d21:listed.getD 21 false=true:=hdep ⟨21,.data⟩ (by simp) rfl;have r21:=hI.c21 d21;have tg:=hI.tab.at (s:=98) (hdep ⟨19,.guard⟩ (by simp) rfl) rfl rfl;refine zat rm_xc rfl (za9 (g:=19) (sl:=98) (b:=true) rfl rfl (congrArg some tg)) (by decide) rfl Try.func24 (by kernel_rfl) (by kernel_rfl) ?_;walk_nrm;show RM _ _ (G (Frame.enter Try.prog 24 #[x 100] .normal) _) w3;refine zop r21.at_ (by omega) fun v w4 L4 hr=>?_;rw [Frame.finish_at];have hI4:=hI.left L4;exact hnext (A4 (upd x 101 v)) w4 ⟨_,oz3,ow3,rfl,hI4.put (i:=22) (by omega) (.inr rfl) (fun z=>by omega) (fun z=>by omega) (fun z=>by omega) (fun z=>by omega) (fun _=>znq hr hI.cs.ns.z.new hI.cs.ns.wt.new)⟩
  ·have hop':=yaw hop;subst hop';have tg:=hI.tab.at (s:=98) (hdep ⟨19,.guard⟩ (by simp) rfl) rfl rfl;refine za0 rfl (za9 (g:=19) (sl:=98) (b:=true) rfl rfl (congrArg some tg)) (by decide) (zai (l:=[_]) (by kernel_rfl) _ (yaj.2 rfl)) (v := .pointer (some ⟨N,2,none⟩)) (fun wp hp=>by
    unfold A4
    try unfold gpv at *
    go_simp<;>rfl) ?_
   exact hnext _ w3 ⟨upd x 102 _,oz3,ow3,rfl,hI.putp (by decide) rfl⟩
  ·have hop':=yaw hop;subst hop';have t23:=hI.tab.at (s:=102) (hdep ⟨23,.data⟩ (by simp) rfl) rfl rfl;have tg:=hI.tab.at (s:=98) (hdep ⟨19,.guard⟩ (by simp) rfl) rfl rfl;refine za0 rfl (za9 (g:=19) (sl:=98) (b:=true) rfl rfl (congrArg some tg)) (by decide) (zai (l:=[_]) (by kernel_rfl) _ (yaj.2 rfl)) (v := .slice (some ⟨bs,os,none⟩) sl cst) (fun wp hp=>by
    have q2:=cc.out _ _ n2.out wp hp;unfold A4
    try unfold gpv at *
    go_simp<;>rfl) ?_
   exact hnext _ w3 ⟨upd x 103 _,oz3,ow3,rfl,hI.putp (by decide) rfl⟩
  ·have hop':=yaw hop;subst hop';have tg:=hI.tab.at (s:=98) (hdep ⟨19,.guard⟩ (by simp) rfl) rfl rfl;refine za0 rfl (za9 (g:=19) (sl:=98) (b:=true) rfl rfl (congrArg some tg)) (by decide) (zai (l:=[_]) (by kernel_rfl) _ (yaj.2 rfl)) (v := .int .i64 m) (fun wp hp=>by
    unfold A4
    try unfold gpv at *
    go_simp<;>rfl) ?_
   exact hnext _ w3 ⟨upd x 104 _,oz3,ow3,rfl,hI.putp (by decide) rfl⟩
  ·have hop':=yaw hop;subst hop';have t25:=hI.tab.at (s:=104) (hdep ⟨25,.data⟩ (by simp) rfl) rfl rfl;have tg:=hI.tab.at (s:=98) (hdep ⟨19,.guard⟩ (by simp) rfl) rfl rfl;refine za0 rfl (za9 (g:=19) (sl:=98) (b:=true) rfl rfl (congrArg some tg)) (by decide) (zai (l:=[_]) (by kernel_rfl) _ (yaj.2 rfl)) (v := .int .i64 ((m+1:Nat):Int)) (fun wp hp=>by
    unfold A4
    try unfold gpv at *
    go_simp<;>rfl) ?_
   exact hnext _ w3 ⟨upd x 105 _,oz3,ow3,rfl,hI.putp (by decide) rfl⟩
  ·have hop':=yaw hop;subst hop';have t24:=hI.tab.at (s:=103) (hdep ⟨24,.data⟩ (by simp) rfl) rfl rfl;have t26:=hI.tab.at (s:=105) (hdep ⟨26,.data⟩ (by simp) rfl) rfl rfl;have tg:=hI.tab.at (s:=98) (hdep ⟨19,.guard⟩ (by simp) rfl) rfl rfl;refine za0 rfl (za9 (g:=19) (sl:=98) (b:=true) rfl rfl (congrArg some tg)) (by decide) (zai (l:=[_]) (by kernel_rfl) _ (yaj.2 rfl)) (v := .slice (some ⟨bs,os+1,none⟩) m (cst - 1)) (fun wp hp=>by
    unfold A4
    try unfold gpv at *
    go_simp<;>rfl) ?_
   exact hnext _ w3 ⟨upd x 106 _,oz3,ow3,rfl,hI.putp (by decide) rfl⟩
  ·have hop':=yaw hop;subst hop';have d22:listed.getD 22 false=true:=hdep ⟨22,.data⟩ (by simp) rfl;have r22:=hI.c22 d22;have t27:=hI.tab.at (s:=106) (hdep ⟨27,.data⟩ (by simp) rfl) rfl rfl;have tg:=hI.tab.at (s:=98) (hdep ⟨19,.guard⟩ (by simp) rfl) rfl rfl;refine zat rm_xc rfl (za9 (g:=19) (sl:=98) (b:=true) rfl rfl (congrArg some tg)) (by decide) rfl Try.func23 (by kernel_rfl) (by kernel_rfl) ?_;walk_nrm;show RM _ _ (G (Frame.enter Try.prog 23 #[x 101,x 106] .normal) _) w3;rw [t27];refine zjb r22.ints (hA.out.mono hI.cs.ns.l.same) (by omega) fun w4 L4=>?_;rw [Frame.finish_at];have hI4:=hI.left L4;exact hnext (A4 (upd x 107 (.bool true))) w4 ⟨_,oz3,ow3,rfl,hI4.put (i:=28) (by omega) (.inl rfl) (fun z=>by omega) (fun z=>by omega) (fun z=>by omega) (fun z=>by omega) (fun z=>by omega)⟩
  ·have hop':=yaw hop;subst hop';have t19:=hI.tab.at (s:=98) (hdep ⟨19,.data⟩ (by simp) rfl) rfl rfl;have t28:=hI.tab.at (s:=107) (hdep ⟨28,.data⟩ (by simp) rfl) rfl rfl;refine za0 rfl rfl (by decide) (zai (l:=[_]) (by kernel_rfl) _ (yaj.2 rfl)) (v := .bool true) (fun wp hp=>by
    unfold A4
    try unfold gpv at *
    go_simp<;>rfl) ?_
   exact hnext _ w3 ⟨upd x 108 _,oz3,ow3,rfl,hI.putp (by decide) rfl⟩
  ·have hop':=yaw hop;subst hop';have t29:=hI.tab.at (s:=108) (hdep ⟨29,.data⟩ (by simp) rfl) rfl rfl;refine za0 rfl rfl (by decide) (zai (l:=[_]) (by kernel_rfl) _ (yaj.2 rfl)) (v := .bool true) (fun wp hp=>by
    unfold A4
    try unfold gpv at *
    go_simp<;>rfl) ?_
   exact hnext _ w3 ⟨upd x 109 _,oz3,ow3,rfl,hI.putp (by decide) rfl⟩
  ·have hop':=yaw hop;subst hop';have tg:=hI.tab.at (s:=109) (hdep ⟨30,.guard⟩ (by simp) rfl) rfl rfl;refine za0 rfl (za9 (g:=30) (sl:=109) (b:=true) rfl rfl (congrArg some tg)) (by decide) (zai (l:=[_]) (by kernel_rfl) _ (yaj.2 rfl)) (v := .pointer (some ⟨sb,0,none⟩)) (fun wp hp=>by
    unfold A4
    try unfold gpv at *
    go_simp<;>rfl) ?_
   exact hnext _ w3 ⟨upd x 110 _,oz3,ow3,rfl,hI.putp (by decide) rfl⟩
  ·have hop':=yaw hop;subst hop';have t31:=hI.tab.at (s:=110) (hdep ⟨31,.data⟩ (by simp) rfl) rfl rfl;have tg:=hI.tab.at (s:=109) (hdep ⟨30,.guard⟩ (by simp) rfl) rfl rfl;refine za0 rfl (za9 (g:=30) (sl:=109) (b:=true) rfl rfl (congrArg some tg)) (by decide) (zai (l:=[_]) (by kernel_rfl) _ (yaj.2 rfl)) (v := .pointer (some ⟨sb,0,none⟩)) (fun wp hp=>by
    have qc:=kc.out wp hp;unfold A4
    try unfold gpv at *
    go_simp<;>rfl) ?_
   exact hnext _ w3 ⟨upd x 111 _,oz3,ow3,rfl,hI.putp (by decide) rfl⟩
  ·have hop':=yaw hop;subst hop';have t32:=hI.tab.at (s:=111) (hdep ⟨32,.data⟩ (by simp) rfl) rfl rfl;have tg:=hI.tab.at (s:=109) (hdep ⟨30,.guard⟩ (by simp) rfl) rfl rfl;refine za0 rfl (za9 (g:=30) (sl:=109) (b:=true) rfl rfl (congrArg some tg)) (by decide) (zai (l:=[_]) (by kernel_rfl) _ (yaj.2 rfl)) (v := .pointer (some ⟨sb,0,none⟩)) (fun wp hp=>by
    unfold A4
    try unfold gpv at *
    go_simp<;>rfl) ?_
   exact hnext _ w3 ⟨upd x 112 _,oz3,ow3,rfl,hI.putp (by decide) rfl⟩
  ·have hop':=yaw hop;subst hop';have t33:=hI.tab.at (s:=112) (hdep ⟨33,.data⟩ (by simp) rfl) rfl rfl;have tg:=hI.tab.at (s:=109) (hdep ⟨30,.guard⟩ (by simp) rfl) rfl rfl;refine za0 rfl (za9 (g:=30) (sl:=109) (b:=true) rfl rfl (congrArg some tg)) (by decide) (zai (l:=[_]) (by kernel_rfl) _ (yaj.2 rfl)) (v := .int .i64 ol) (fun wp hp=>by
    have qc:=kc.out wp hp;unfold A4
    try unfold gpv at *
    go_simp<;>rfl) ?_
   exact hnext _ w3 ⟨upd x 113 _,oz3,ow3,rfl,hI.putp (by decide) rfl⟩
  ·have hop':=yaw hop;subst hop';have tg:=hI.tab.at (s:=109) (hdep ⟨30,.guard⟩ (by simp) rfl) rfl rfl;refine za0 rfl (za9 (g:=30) (sl:=109) (b:=true) rfl rfl (congrArg some tg)) (by decide) (zai (l:=[_]) (by kernel_rfl) _ (yaj.2 rfl)) (v := .pointer (some ⟨N,1,none⟩)) (fun wp hp=>by
    unfold A4
    try unfold gpv at *
    go_simp<;>rfl) ?_
   exact hnext _ w3 ⟨upd x 114 _,oz3,ow3,rfl,hI.putp (by decide) rfl⟩
  ·have hop':=yaw hop;subst hop';have t35:=hI.tab.at (s:=114) (hdep ⟨35,.data⟩ (by simp) rfl) rfl rfl;have tg:=hI.tab.at (s:=109) (hdep ⟨30,.guard⟩ (by simp) rfl) rfl rfl;refine za0 rfl (za9 (g:=30) (sl:=109) (b:=true) rfl rfl (congrArg some tg)) (by decide) (zai (l:=[_]) (by kernel_rfl) _ (yaj.2 rfl)) (v := .slice po ol co) (fun wp hp=>by
    have q1:=cc.out _ _ n1.out wp hp;unfold A4
    try unfold gpv at *
    go_simp<;>rfl) ?_
   exact hnext _ w3 ⟨upd x 115 _,oz3,ow3,rfl,hI.putp (by decide) rfl⟩
  ·have hop':=yaw hop;subst hop';have t36:=hI.tab.at (s:=115) (hdep ⟨36,.data⟩ (by simp) rfl) rfl rfl;have tg:=hI.tab.at (s:=109) (hdep ⟨30,.guard⟩ (by simp) rfl) rfl rfl;refine za0 rfl (za9 (g:=30) (sl:=109) (b:=true) rfl rfl (congrArg some tg)) (by decide) (zai (l:=[_]) (by kernel_rfl) _ (yaj.2 rfl)) (v := .int .i64 ol) (fun wp hp=>by
    unfold A4
    try unfold gpv at *
    go_simp<;>rfl) ?_
   exact hnext _ w3 ⟨upd x 116 _,oz3,ow3,rfl,hI.putp (by decide) rfl⟩
  ·have hop':=yaw hop;subst hop';have t34:=hI.tab.at (s:=113) (hdep ⟨34,.data⟩ (by simp) rfl) rfl rfl;have t37:=hI.tab.at (s:=116) (hdep ⟨37,.data⟩ (by simp) rfl) rfl rfl;have tg:=hI.tab.at (s:=109) (hdep ⟨30,.guard⟩ (by simp) rfl) rfl rfl;refine za0 rfl (za9 (g:=30) (sl:=109) (b:=true) rfl rfl (congrArg some tg)) (by decide) (zai (l:=[_]) (by kernel_rfl) _ (yaj.2 rfl)) (v := .bool true) (fun wp hp=>by
    unfold A4
    try unfold gpv at *
    go_simp<;>rfl) ?_
   exact hnext _ w3 ⟨upd x 117 _,oz3,ow3,rfl,hI.putp (by decide) rfl⟩
  ·have hop':=yaw hop;subst hop';have t30:=hI.tab.at (s:=109) (hdep ⟨30,.data⟩ (by simp) rfl) rfl rfl;have t38:=hI.tab.at (s:=117) (hdep ⟨38,.data⟩ (by simp) rfl) rfl rfl;refine za0 rfl rfl (by decide) (zai (l:=[_]) (by kernel_rfl) _ (yaj.2 rfl)) (v := .bool true) (fun wp hp=>by
    unfold A4
    try unfold gpv at *
    go_simp<;>rfl) ?_
   exact hnext _ w3 ⟨upd x 118 _,oz3,ow3,rfl,hI.putp (by decide) rfl⟩
  ·have hop':=yaw hop;subst hop';have t39:=hI.tab.at (s:=118) (hdep ⟨39,.data⟩ (by simp) rfl) rfl rfl;refine za0 rfl rfl (by decide) (zai (l:=[_]) (by kernel_rfl) _ (yaj.2 rfl)) (v := .bool true) (fun wp hp=>by
    unfold A4
    go_simp<;>rfl) ?_
   exact hnext _ w3 ⟨upd x 2 _,oz3,ow3,rfl,fun j h3 hj=>by rw [upd_ne _ _ (by omega)];exact hI.xs j h3 hj,fun j u hj hl=>by
    have hne:j≠40:=fun e=>by rw [e] at hj;cases hj
    rw [zaf hne] at hl;rw [upd_ne _ _ (by omega)];exact hI.tab j u hj hl,hI.cs,fun q=>hI.c1 (by rwa [zaf (by omega)] at q),fun q=>hI.c2 (by rwa [zaf (by omega)] at q),fun q=>hI.c11 (by rwa [zaf (by omega)] at q),fun q=>hI.c21 (by rwa [zaf (by omega)] at q),fun q=>hI.c22 (by rwa [zaf (by omega)] at q),fun _=>rfl⟩
end
theorem zpy:∀ (l l':List OpD) (s:GateS),zdx s (l++l')=zdx s l+zdx (zjc s l) l'
 | [],l',s=>by simp [zdx,zjc]
 | o::l,l',s=>by
  show ze0 s o+zdx (zbi s o).2 (l++l')=ze0 s o+zdx (zbi s o).2 l+zdx (zjc (zbi s o).2 l) l';rw [zpy l l'];omega
theorem zuk (l:List OpD) (s:GateS) (j:Nat):zdx s (l.take j)≤zdx s l:=by
 have:=zpy (l.take j) (l.drop j) s;rw [List.take_append_drop] at this;omega
structure Y4 (va:Value) (N gz gw sb j:Nat) (x:Nat→Value):Prop where
 x0:x 0=va
 x3:x 3 = .pointer (some ⟨N,0,none⟩)
 x4:x 4=gpv gz
 x5:x 5=gpv gw
 x6:x 6 = .pointer (some ⟨sb,0,none⟩)
 x7:x 7 = .int .i64 j
theorem Y4.of {va:Value} {N gz gw sb j:Nat} {x y:Nat→Value} (h:Y4 va N gz gw sb j x) (e:∀ j,j < 8→y j=x j):Y4 va N gz gw sb j y :=
 ⟨(e 0 (by decide)).trans h.x0,(e 3 (by decide)).trans h.x3,(e 4 (by decide)).trans h.x4,(e 5 (by decide)).trans h.x5,(e 6 (by decide)).trans h.x6,(e 7 (by decide)).trans h.x7⟩
section
variable {Z:Machine→Trace→Prop} {cs:List Frame} {w0:World} {gz gw sb N ba oa ca cap:Nat} {ao:Option Addr} {L L':List OpD} {ua:Value} {R:List Item}
theorem zun (hops:OpsIn w0 ao L.length cap L) (hL:L.length≤9223372036854775807) (hL':L'=L.take 65536) (hK:zdx sG0 L'≤1048576)
  (hN0:w0.cell? ⟨N,0,none⟩=some (.slice (some ⟨ba,oa,none⟩) 1 ca)) (hA:w0.cell? ⟨ba,oa,none⟩=some ua) (hAns:AnsIn w0 ua (zuv sG0 L'))
  (hret:∀ x oz ow w,Y4 (.slice ao L.length cap) N gz gw sb L'.length x→CS w0 gz gw sb (zdx sG0 L') (zjc sG0 L') (zjc sG0 L') oz ow w→RM Try.prog Z (G ((base 4).at (A4 x) R) cs) w) :
  ∀ (k j:Nat),j+k=L'.length→∀ x oz ow w,Y4 (.slice ao L.length cap) N gz gw sb j x→CS w0 gz gw sb (zdx sG0 (L'.take j)) (zjc sG0 (L'.take j)) (zjc sG0 (L'.take j)) oz ow w→RM Try.prog Z (G ((base 4).at (A4 x) (.code zq5 :: .inLoop zq5 :: .inBlock 0::R)) cs) w:=by
 obtain ⟨au,cu,rfl,qa⟩:=hAns;rw [zsz] at hA;have hlen':L'.length≤65536:=by rw [hL'];simp;omega
 intro k
 induction k with
 | zero =>
  intro j hj x oz ow w hx I;obtain ⟨K,hKn⟩:∃ n,L'.length=n:=⟨_,rfl⟩;obtain ⟨n,hn⟩:∃ n,L.length=n:=⟨_,rfl⟩;have hret':=yay fun x oz ow w h I=>hret x oz ow w h I;have hops':=hops;rw [hKn] at hA hj;rw [hn] at hx;obtain rfl:j=K:=by omega
  have e1:¬ (j:Int) < (j:Int):=by omega
  clear hret hops qa hlen' hK;replace hKn:=yay hKn;replace hn:=yay hn;refine za5 rm_xc rfl fun R0 hR0=>?_;rw [show cA zq5=Code.seq _ _ from rfl]
  unfold A4;simp only [hx.x0,hx.x3,hx.x4,hx.x5,hx.x6,hx.x7];unfold gpv;refine zae rm_xc fun R1 hR1=>?_;refine zby zlz (zab zah (by kernel_rfl)) rfl (zaa Try.func4) rfl fun wp hp=>?_;have q0:wp.cell? ⟨N,0,none⟩=some (.slice (some ⟨ba,oa,none⟩) 1 ca):=(zax (w:=w0) (fun b hb=>(congrArg (·[b]?) hp.heap).trans (I.ns.l.same b hb)) hN0);have q1:wp.cell? ⟨ba,oa,none⟩=some (.slice au j cu):=(zax (w:=w0) (fun b hb=>(congrArg (·[b]?) hp.heap).trans (I.ns.l.same b hb)) hA);clear hops' hN0 hA;replace hp:=yay hp
  go_wp2_with fail
  refine fun w1 h1=>?_;replace I:=I.sim (h1.heap.trans hp.out.heap) ⟨h1.outs.1.trans hp.out.outs.1,h1.outs.2.trans hp.out.outs.2⟩;clear h1 hp q0 q1 wp;obtain rfl:=hR1.out;clear hR1;refine zam rm_xc (t:=false) rfl ?_;obtain rfl:=hR0.out;refine zf9 rm_xc rfl ?_;rw [zuw _ rfl];have ht:L'.take j=L':=List.take_of_length_le (by rw [hKn.out];exact yax _);rw [ht] at I;refine hret'.out _ oz ow _ ?_ I;rw [hn.out,hKn.out];exact ⟨rfl,rfl,rfl,rfl,rfl,rfl⟩
 | succ k ih =>
  intro j hj x oz ow w hx I;have hjK:j < L'.length:=by omega
  have hjL:j < L.length:=by rw [hL'] at hjK;simp at hjK;omega
  have nx:IntKind.i64.wrap ((j:Int)+1)=((j+1:Nat):Int):=by rw [IntKind.wrap_i64];omega
  have hop:L[j]?=some L[j]:=List.getElem?_eq_getElem hjL;have hop':L'[j]?=some L[j]:=by rw [hL',List.getElem?_take_of_lt (by omega)];exact hop
  have hok:L[j].Ok:=hops.1 _ (List.getElem_mem hjL);obtain ⟨b,off,eao,hcell⟩:=hops.2.2.2 (by intro q;rw [q] at hjL;simp at hjL);have hcells:=hcell j _ hop;have hans:=zs0 L' sG0 j _ hop';have hne:zuv sG0 L'≠[]:=by intro q;rw [q] at hans;simp at hans
  obtain ⟨bb,ob,eau,hac⟩:=qa hne;obtain ⟨a0,a1,u3,a2,a3⟩:=hac j _ hans;have htk:L'.take (j+1)=L'.take j++[L[j]]:=by rw [List.take_add_one,hop'];rfl
  have hcost:zdx sG0 (L'.take j)+ze0 (zjc sG0 (L'.take j)) L[j]≤1048576:=by
   have:=zuk L' sG0 (j+1);rw [htk,zjk] at this;omega
  have hm:=I.ns.z.rep.mem;replace ih:=yay (ih (j+1) (by omega));rw [htk,zjk,zpa] at ih;generalize L[j]=o at *;generalize zjc sG0 (L'.take j)=s at *;generalize zdx sG0 (L'.take j)=nst at *;obtain ⟨n,hn⟩:∃ n,L.length=n:=⟨_,rfl⟩;obtain ⟨K,hKn⟩:∃ n,L'.length=n:=⟨_,rfl⟩;rw [hn] at hx hjL hL ih;rw [hKn] at hA hjK;subst eau eao;have hlt':(j:Int) < (K:Int):=by omega
  clear hret hops hcell hop hop' qa hac hans hne htk hK;replace hn:=yay hn;replace hKn:=yay hKn;replace hL:=yay hL;replace hcells:=yay hcells;replace a0:=yay a0;replace a1:=yay a1;replace a2:=yay a2;replace hcost:=yay hcost;replace hj:=yay hj;replace hlen':=yay hlen';replace hjL:=yay hjL;replace hjK:=yay hjK;have hN0':=yay hN0;have hA':=yay hA;refine za5 rm_xc rfl fun R0 hR0=>?_;rw [show cA zq5=Code.seq _ _ from rfl]
  unfold A4;simp only [hx.x0,hx.x3,hx.x4,hx.x5,hx.x6,hx.x7];unfold gpv;refine zae rm_xc fun R1 hR1=>?_;refine zby zlz (zab zah (by kernel_rfl)) rfl (zaa Try.func4) rfl fun wp hp=>?_;have q0:wp.cell? ⟨N,0,none⟩=some (.slice (some ⟨ba,oa,none⟩) 1 ca):=(zax (w:=w0) (fun b hb=>(congrArg (·[b]?) hp.heap).trans (I.ns.l.same b hb)) hN0);have q1:wp.cell? ⟨ba,oa,none⟩=some (.slice (some ⟨bb,ob,none⟩) K cu):=(zax (w:=w0) (fun b hb=>(congrArg (·[b]?) hp.heap).trans (I.ns.l.same b hb)) hA);clear hN0 hA;replace hp:=yay hp
  go_wp2_with fail
  refine fun w1 h1=>?_;replace I:=I.sim (h1.heap.trans hp.out.heap) ⟨h1.outs.1.trans hp.out.outs.1,h1.outs.2.trans hp.out.outs.2⟩;clear h1 hp q0 q1 wp;obtain rfl:=hR1.out;clear hR1;refine zam rm_xc (t:=true) rfl ?_;refine zbm rm_xc ?_;obtain rfl:=hR0.out;clear hR0;refine za5 rm_xc rfl fun R0 hR0=>?_;rw [show cA (cB zq5)=Code.block _ _ from rfl]
  refine zb0 rm_xc ?_;rw [zuw _ rfl];refine za5 (c:=in10) rm_xc rfl fun R1 hR1=>?_;refine pair10 (jj:=j) (b:=b) (off:=off) (len:=n) (cap:=cap) (s:=s) (n:=nst) hok (by have:=hcost.out;omega) hjL.out (by have:=hL.out;exact this) hcells.out rfl rfl rfl rfl rfl I fun x1 oz1 ow1 w3 Kb Kb' u1 u2 hx1 x8 x9 I bk bk' i1 i2=>?_;obtain rfl:=hR1.out;clear hR1;refine cmp11 (r:=(zbi s o).1) (jj:=j) (ln:=K) (cap:=cu) (bb:=bb) (ob:=ob) (v3:=u3) ((hx1 3 (by decide)).trans rfl) ((hx1 7 (by decide)).trans rfl) x8 x9 hjK.out (zax I.ns.l.same hN0'.out) (zax I.ns.l.same hA'.out) (zax I.ns.l.same a0.out) (zax I.ns.l.same a1.out) (zax I.ns.l.same a2.out) (a3.mono I.ns.l.same) bk bk' i1 i2 (z0i hm o) fun x2 w4 hx2 l4=>?_;replace I:=I.left l4;have hy:Y4 (.slice (some ⟨b,off,none⟩) n cap) N gz gw sb j x2:=by
   refine Y4.of (x:=x1) ?_ fun j hj=>hx2 j (by omega);refine Y4.of ?_ hx1;exact ⟨rfl,rfl,rfl,rfl,rfl,rfl⟩
  clear hx1 hx2 l4 bk bk' i1 i2 x8 x9;refine zb3 rm_xc ?_;obtain rfl:=hR0.out;clear hR0;rw [show cB (cB zq5)=Code.region _ _ _ from rfl]
  unfold A4;simp only [hy.x0,hy.x3,hy.x4,hy.x5,hy.x6,hy.x7];refine zby zlz (zab zah (by kernel_rfl)) rfl (zaa Try.func4) rfl fun wp hp=>?_;replace hp:=yay hp
  go_wp2_with fail
  refine fun w6 h1=>?_;replace I:=I.sim (h1.heap.trans hp.out.heap) ⟨h1.outs.1.trans hp.out.outs.1,h1.outs.2.trans hp.out.outs.2⟩;clear h1 hp wp;refine zcx rm_xc ?_;rw [zuw _ rfl];exact ih.out _ _ _ _ ⟨rfl,rfl,rfl,rfl,rfl,rfl⟩ I
end
end Go.Proofs.Ytofacoojpgkbiaa
