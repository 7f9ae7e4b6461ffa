/- Part of a proof. No condition. -/
import Derived.Test.YtofacoojpgkbiaaCCalP35
set_option linter.unusedVariables false
set_option maxHeartbeats 8000000
set_option linter.unusedSimpArgs false
namespace Go.Proofs.Ytofacoojpgkbiaa
open Go.Conc Go.RowKit
open Go.ConcN (upd upd_ne upd_same)
set_option maxRecDepth 100000
section
variable{Z:Machine→Trace→Prop}{c:Frame}{cs:List Frame}{w:World}
theorem zfl{f:FuncId}{args:Array Value}{v:Value}(hf:f∈[32,33,34,36,37,38,83,87,95,97,100,101,104,105,106,153])(hc:∀W:World,W.heap=w.heap→Calls Try.prog f args W fun e w'=>e = .returned v∧W=w')(h:∀w',LeftW w w'→RM Try.prog Z (G (c.finish v) cs) w'):RM Try.prog Z (G (Frame.enter Try.prog f args .normal) (c::cs)) w :=
 zha zyk (f:=f) hf (R:=fun v' w'=>v'=v∧LeftW w w') (fun _ w' τ d hx=>⟨hx.1,zew τ d hx.2⟩) (fun τ d=>(hc (re τ d w) rfl).mono fun e w' ⟨e1,e2⟩=>⟨_,e1,rfl,by rw[←e2];exact zew τ d .refl⟩) fun v' w' hv=>by
  obtain⟨rfl,hl⟩:=hv;exact h w' hl
end
structure ITab(base hi:Nat)(W:World)(tv:Nat→Option Value)(z:Nat→Value)(qz:Array Bool)(x:Nat→Value)(w:World):Prop where
 xs:∀j,5≤j→j<hi→x j=z j
 tab:Tab tv base qz x
 low:LeftW W w
 d:qz.getD 55 false=true→x 4 = .bool true
section
variable{base hi:Nat}{W w w':World}{tv:Nat→Option Value}{z x:Nat→Value}{qz:Array Bool}
theorem ITab.put(h:ITab base hi W tv z qz x w){i:Nat}{u:Value}(hb:4<base∧hi≤base)(hi':i<55)(ht:tv i=some u∨tv i=none)(l:LeftW w w'):ITab base hi W tv z (qz.setIfInBounds i true) (upd x (base+i) u) w' :=
 ⟨fun j h5 hj=>by rw[upd_ne _ _ (by omega)];exact h.xs j h5 hj,h.tab.put ht,h.low.trans l,fun q=>by rw[upd_ne _ _ (by omega)];exact h.d (by rwa[zar (by omega)] at q)⟩
end
theorem ITab.op{B hi:Nat}{W w3:World}{tv:Nat→Option Value}{z x:Nat→Value}{qz:Array Bool}{Z:Machine→Trace→Prop}{k:List Item}{cs:List Frame}{ops:Array Oper}{i:Nat}{rest:List Nat}{o:Oper}{v:Value}(hI:ITab B hi W tv z qz x w3)(hb:4<B∧hi≤B)(hi':i<55)(hB:B+i<203)
  (ho:ops[i]?=some o) (hd:o.dst=some (B+i)) (hc:zcw true Try.prog (fun _=>False) o) (ht:tv i=some v) (hw:Region.wanted o (yielded ops (A8 x).tmps)=true) (hr:∀wp,Sim wp w3→(execOp (A8 x).eval o).run Try.prog wp = .ok (.value v) wp)
  (qy:∀a w,(∃x,a=A8 x∧ITab B hi W tv z (qz.setIfInBounds i true) x w)→RM Try.prog Z (G ((base 8).at a (.inRegion ops rest::k)) cs) w):RM Try.prog Z (G ((base 8).at (A8 x) (.inRegion ops (i::rest)::k)) cs) w3:=by
 refine zei ho hw (by decide) hc hr ?_;rw[hd,z1h hB];exact qy _ _ ⟨_,rfl,hI.put hb hi' (.inl ht) .refl⟩
noncomputable def z4t:Code:=cA (cA (cB (cB zk2)))
noncomputable def zj7:Code:=cB (cB (cB zk2))
def tv25(sb N ol co bs os cst:Nat)(po:Option Addr):Nat→Option Value
 | 0=>some (.pointer (some ⟨sb,0,none⟩))|1=>some (.pointer (some ⟨sb,0,none⟩))|2=>some (.pointer (some ⟨sb,0,none⟩))|3=>some (.int .i64 ol)|4=>some (.pointer (some ⟨N,1,none⟩))|5=>some (.slice po ol co)|6=>some (.int .i64 ol)|7=>some (.bool false)|8=>some (.bool false)|9=>some (.pointer (some ⟨N,2,none⟩))|10=>some (.slice (some ⟨bs,os,none⟩) 3 cst)|11=>some (.int .i64 3)|12=>some (.bool false)|13=>some (.bool false)
 | _=>none
section
variable{Z:Machine→Trace→Prop}{cs:List Frame}{W:World}{sb N bs os cst ol co:Nat}{po:Option Addr}{z:Nat→Value}{R:List Item}
theorem zur(z7:z 7 = .pointer (some ⟨N,0,none⟩))(z10:z 10 = .pointer (some ⟨sb,0,none⟩))(hol:ol≤4611686018427387904)
  (h0:W.cell? ⟨sb,0,none⟩=some (.int .i64 ol)) (h1:W.cell? ⟨N,1,none⟩=some (.slice po ol co)) (h2:W.cell? ⟨N,2,none⟩=some (.slice (some ⟨bs,os,none⟩) 3 cst))
  (qu:∀x w',(∀j,5≤j→j<15→x j=z j)→x 144 = .bool false→LeftW W w'→RM Try.prog Z (G ((base 8).at (A8 x) R) cs) w') :
  RM Try.prog Z (G ((base 8).at (A8 z) (.code z4t::R)) cs) W:=by
 have qi:=yay fun(x:Nat→Value) w' (h1:∀j,5≤j→j<15→x j=z j) (h2:x 144 = .bool false) h3=>qu x w' h1 h2 h3;clear qu;rw[show z4t=Code.region _ _ _ from rfl]
 refine zn4 rfl (fun qz a w=>∃x,a=A8 x∧ITab 131 15 W (tv25 sb N ol co bs os cst po) z qz x w) ?i0 ?ie ?ist
 case i0=>exact⟨z,rfl,fun _ _ _=>rfl,.zero,.refl,fun q=>(by rw[getD_replicate_false] at q;cases q)⟩
 case ie =>
  rintro qz a w qp qE ⟨x,rfl,hI⟩;have ql:=zhh (zs7 (by kernel_rfl)) qp qE;have qS:=hI.tab.at (s:=144) (ql 13 (by decide)) rfl rfl;refine zad rm_xc ?_;exact qi.out x w hI.xs qS hI.low
 case ist =>
  rintro qz i qp qA a w3 rr ⟨x,rfl,hI⟩ qy;obtain⟨wi,op,qc,qx⟩:=mem_ready.1 qA;have wK:i<14:=by
   have:=(yah.1 qc).1
   simpa using this
  have x7:=(hI.xs 7 (by decide) (by decide)).trans z7;have x10:=(hI.xs 10 (by decide) (by decide)).trans z10;have cc:Hid (∀(a:Addr) v,W.cell? a=some v→∀wp:World,wp.heap=w3.heap→wp.cell? a=some v):=yay fun a v q wp hp=>by
   refine(World.cell?_of_block (w:=W) ?_).trans q;show wp.heap[a.block]?=W.heap[a.block]?;rw[hp];exact hI.low.same _ (World.block_lt_of_cell? W _ q)
  replace h0:=yay h0;replace h1:=yay h1;replace h2:=yay h2;have qg:i=0∨i=1∨i=2∨i=3∨i=4∨i=5∨i=6∨i=7∨i=8∨i=9∨i=10∨i=11∨i=12∨i=13:=by omega
  rcases qg with rfl|rfl|rfl|rfl|rfl|rfl|rfl|rfl|rfl|rfl|rfl|rfl|rfl|rfl;all_goals
   have qb:=yaw qc;subst qb
   try have t0:=hI.tab.at (s:=131) (zah qx 0 rfl) rfl rfl
   try have t1:=hI.tab.at (s:=132) (zah qx 1 rfl) rfl rfl
   try have t2:=hI.tab.at (s:=133) (zah qx 2 rfl) rfl rfl
   try have t3:=hI.tab.at (s:=134) (zah qx 3 rfl) rfl rfl
   try have t4:=hI.tab.at (s:=135) (zah qx 4 rfl) rfl rfl
   try have t5:=hI.tab.at (s:=136) (zah qx 5 rfl) rfl rfl
   try have t6:=hI.tab.at (s:=137) (zah qx 6 rfl) rfl rfl
   try have t7:=hI.tab.at (s:=138) (zah qx 7 rfl) rfl rfl
   try have t8:=hI.tab.at (s:=139) (zah qx 8 rfl) rfl rfl
   try have t9:=hI.tab.at (s:=140) (zah qx 9 rfl) rfl rfl
   try have qX:=hI.tab.at (s:=141) (zah qx 10 rfl) rfl rfl
   try have qY:=hI.tab.at (s:=142) (zah qx 11 rfl) rfl rfl
   try have wg:=hI.tab.at (s:=143) (zah qx 12 rfl) rfl rfl
   try have wc:=hI.tab.at (s:=144) (zah qx 13 rfl) rfl rfl
   refine hI.op (by decide) (by decide) (by decide) rfl rfl (zai (l:=[_]) (by kernel_rfl) _ (yaj.2 rfl)) rfl (by first|rfl|exact zc1 (g:=8) (sl:=139) (b:=false) rfl rfl (congrArg some (hI.tab.at (s:=139) (zah qx 8 rfl) rfl rfl))) (fun wp hp=>?_) qy;have q_h0:=cc.out _ _ h0.out wp hp.heap;have q_h1:=cc.out _ _ h1.out wp hp.heap;have q_h2:=cc.out _ _ h2.out wp hp.heap;unfold A8
   try unfold gpv at *
   go_simp<;>rfl
end
def tv30(N bs os cst ka kb wa fa ba wb fb bb:Nat)(vW:Int)(vF:Bool)(vB:Int):Nat→Option Value
 | 0=>some (.pointer (some ⟨ka,0,none⟩))|1=>some (gpv wa)|2=>some (.int .i64 vW)|3=>some (.pointer (some ⟨N,2,none⟩))|4=>some (.slice (some ⟨bs,os,none⟩) 3 cst)|5=>some (.pointer (some ⟨bs,os,none⟩))|6=>some (.int .i64 vW)|7=>some (.bool true)|8=>some (.bool true)|9=>some (.int .i64 (bit vF))|10=>some (.pointer (some ⟨N,2,none⟩))|11=>some (.slice (some ⟨bs,os,none⟩) 3 cst)|12=>some (.pointer (some ⟨bs,os+1,none⟩))|13=>some (.int .i64 (bit vF))|14=>some (.bool true)|15=>some (.bool true)|16=>some (.bool true)|17=>some (.pointer (some ⟨ka,2,none⟩))|18=>some (gpv ba)|19=>some (.int .i64 vB)|20=>some (.pointer (some ⟨N,2,none⟩))|21=>some (.slice (some ⟨bs,os,none⟩) 3 cst)|22=>some (.pointer (some ⟨bs,os+2,none⟩))|23=>some (.int .i64 vB)|24=>some (.bool true)|25=>some (.bool true)|26=>some (.bool true)|27=>some (.pointer (some ⟨kb,0,none⟩))|28=>some (gpv wb)|29=>some (.int .i64 vW)|30=>some (.pointer (some ⟨N,2,none⟩))|31=>some (.slice (some ⟨bs,os,none⟩) 3 cst)|32=>some (.pointer (some ⟨bs,os,none⟩))|33=>some (.int .i64 vW)|34=>some (.bool true)|35=>some (.bool true)|36=>some (.bool true)|37=>some (.pointer (some ⟨kb,1,none⟩))|38=>some (gpv fb)|39=>some (.bool vF)|40=>some (.pointer (some ⟨ka,1,none⟩))|41=>some (gpv fa)|42=>some (.bool vF)|43=>some (.bool true)|44=>some (.bool true)|45=>some (.bool true)|46=>some (.pointer (some ⟨kb,2,none⟩))|47=>some (gpv bb)|48=>some (.int .i64 vB)|49=>some (.pointer (some ⟨N,2,none⟩))|50=>some (.slice (some ⟨bs,os,none⟩) 3 cst)|51=>some (.pointer (some ⟨bs,os+2,none⟩))|52=>some (.int .i64 vB)|53=>some (.bool true)|54=>some (.bool true)
 | _=>none
noncomputable def z4s:Code:=cA (cB (cB zj7))
theorem KeptI.left{W w:World}{p:Option Addr}{v:Int}(h:KeptI W p v)(l:∀b,b<W.heap.size→w.heap[b]?=W.heap[b]?):KeptI w p v:=by
 rcases h with h|⟨kb,e,h⟩
 ·exact .inl h
 ·exact .inr ⟨kb,e,(l kb (yah.1 h).1).trans h⟩
section
variable{Z:Machine→Trace→Prop}{cs:List Frame}{W:World}{N bs os cst ka kb wa fa ba wb fb bb:Nat}{vW vB:Int}{vF:Bool}{pA pB:Option Addr}{z:Nat→Value}{R:List Item}
theorem zuq(z7:z 7 = .pointer (some ⟨N,0,none⟩))(z8:z 8 = .pointer (some ⟨ka,0,none⟩))(z9:z 9 = .pointer (some ⟨kb,0,none⟩))(z14:z 14 = .int .i64 (bit vF))
  (h2:W.cell? ⟨N,2,none⟩=some (.slice (some ⟨bs,os,none⟩) 3 cst)) (s0:W.cell? ⟨bs,os,none⟩=some (.int .i64 vW)) (s1:W.cell? ⟨bs,os+1,none⟩=some (.int .i64 (bit vF))) (s2:W.cell? ⟨bs,os+2,none⟩=some (.int .i64 vB))
  (ka0:W.cell? ⟨ka,0,none⟩=some (gpv wa)) (ka1:W.cell? ⟨ka,1,none⟩=some (gpv fa)) (ka2:W.cell? ⟨ka,2,none⟩=some (gpv ba)) (kb0:W.cell? ⟨kb,0,none⟩=some (gpv wb)) (kb1:W.cell? ⟨kb,1,none⟩=some (gpv fb)) (kb2:W.cell? ⟨kb,2,none⟩=some (gpv bb))
  (wA:W.cell? ⟨wa,0,none⟩=some (.int .i64 vW)) (fA:W.cell? ⟨fa,0,none⟩=some (.int .u32 (bit vF))) (bA:W.cell? ⟨ba,0,none⟩=some (.pointer pA)) (kA:KeptI W pA vB)
  (wB:W.cell? ⟨wb,0,none⟩=some (.int .i64 vW)) (fB:W.cell? ⟨fb,0,none⟩=some (.int .u32 (bit vF))) (bB:W.cell? ⟨bb,0,none⟩=some (.pointer pB)) (kB:KeptI W pB vB)
  (qu:∀x w',x 4 = .bool true→LeftW W w'→RM Try.prog Z (G ((base 8).at (A8 x) R) cs) w') :
  RM Try.prog Z (G ((base 8).at (A8 z) (.code z4s::R)) cs) W:=by
 have qi:=yay qu;clear qu;have hFF:(vF==vF)=true:=by cases vF<;>rfl
 rw[show z4s=Code.region _ _ _ from rfl]
 refine zn4 rfl (fun qz a w=>∃x,a=A8 x∧ITab 148 15 W (tv30 N bs os cst ka kb wa fa ba wb fb bb vW vF vB) z qz x w) ?i0 ?ie ?ist
 case i0=>exact⟨z,rfl,fun _ _ _=>rfl,.zero,.refl,fun q=>(by rw[getD_replicate_false] at q;cases q)⟩
 case ie =>
  rintro qz a w qp qE ⟨x,rfl,hI⟩;have ql:=zhh (zs7 (by kernel_rfl)) qp qE;have h4:=hI.d (ql 55 (by decide));refine zad rm_xc ?_;exact qi.out x w h4 hI.low
 case ist =>
  rintro qz i qp qA a w3 rr ⟨x,rfl,hI⟩ qy;obtain⟨wi,op,qc,qx⟩:=mem_ready.1 qA;have wF:i<56:=by
   have:=(yah.1 qc).1
   simpa using this
  have x7:=(hI.xs 7 (by decide) (by decide)).trans z7;have x8:=(hI.xs 8 (by decide) (by decide)).trans z8;have x9:=(hI.xs 9 (by decide) (by decide)).trans z9;have x14:=(hI.xs 14 (by decide) (by decide)).trans z14;have cc:Hid (∀(a:Addr) v,W.cell? a=some v→∀wp:World,wp.heap=w3.heap→wp.cell? a=some v):=yay fun a v q wp hp=>by
   refine(World.cell?_of_block (w:=W) ?_).trans q;show wp.heap[a.block]?=W.heap[a.block]?;rw[hp];exact hI.low.same _ (World.block_lt_of_cell? W _ q)
  have kkA:Hid (∀W':World,W'.heap=w3.heap→KeptI W' pA vB):=yay fun W' hW=>kA.left fun b hb=>by rw[hW];exact hI.low.same b hb
  have kkB:Hid (∀W':World,W'.heap=w3.heap→KeptI W' pB vB):=yay fun W' hW=>kB.left fun b hb=>by rw[hW];exact hI.low.same b hb
  replace h2:=yay h2;replace s0:=yay s0;replace s1:=yay s1;replace s2:=yay s2;replace ka0:=yay ka0;replace ka1:=yay ka1;replace ka2:=yay ka2;replace kb0:=yay kb0;replace kb1:=yay kb1;replace kb2:=yay kb2;replace wA:=yay wA;replace fA:=yay fA;replace bA:=yay bA;replace kA:=yay kA;replace wB:=yay wB;replace fB:=yay fB;replace bB:=yay bB;replace kB:=yay kB;have qg:i=2∨i=19∨i=29∨i=39∨i=42∨i=48∨i=55∨i=0∨i=1∨i=3∨i=4∨i=5∨i=6∨i=7∨i=8∨i=9∨i=10∨i=11∨i=12∨i=13∨i=14∨i=15∨i=16∨i=17∨i=18∨i=20∨i=21∨i=22∨i=23∨i=24∨i=25∨i=26∨i=27∨i=28∨i=30∨i=31∨i=32∨i=33∨i=34∨i=35∨i=36∨i=37∨i=38∨i=40∨i=41∨i=43∨i=44∨i=45∨i=46∨i=47∨i=49∨i=50∨i=51∨i=52∨i=53∨i=54:=by omega
  rcases qg with rfl|rfl|rfl|rfl|rfl|rfl|rfl|rfl|rfl|rfl|rfl|rfl|rfl|rfl|rfl|rfl|rfl|rfl|rfl|rfl|rfl|rfl|rfl|rfl|rfl|rfl|rfl|rfl|rfl|rfl|rfl|rfl|rfl|rfl|rfl|rfl|rfl|rfl|rfl|rfl|rfl|rfl|rfl|rfl|rfl|rfl|rfl|rfl|rfl|rfl|rfl|rfl|rfl|rfl|rfl|rfl
  ·have qb:=yaw qc;subst qb;have t1:=hI.tab.at (s:=149) (qx ⟨1,.data⟩ (by simp) rfl) rfl rfl;refine zap rm_xc rfl rfl (by decide) rfl Try.func37 (by kernel_rfl) (by kernel_rfl) ?_;walk_nrm;show RM _ _ (G (Frame.enter Try.prog 37 #[x 149] .normal) _) w3;rw[t1];refine zfl (v := .int .i64 vW) (by decide) (fun W' hW=>zd2 wa vW W' (cc.out _ _ wA.out W' hW)) fun w4 L4=>?_;rw[Frame.finish_at];exact qy (A8 (upd x 150 (.int .i64 vW))) w4 ⟨_,rfl,hI.put (by decide) (by decide) (.inl rfl) L4⟩
  ·have qb:=yaw qc;subst qb;have qP:=hI.tab.at (s:=166) (qx ⟨18,.data⟩ (by simp) rfl) rfl rfl;have tg:=hI.tab.at (s:=164) (qx ⟨16,.guard⟩ (by simp) rfl) rfl rfl;refine zap rm_xc rfl (zc1 (g:=16) (sl:=164) (b:=true) rfl rfl (congrArg some tg)) (by decide) rfl Try.func38 (by kernel_rfl) (by kernel_rfl) ?_;walk_nrm;show RM _ _ (G (Frame.enter Try.prog 38 #[x 166] .normal) _) w3;rw[qP];refine zfl (v := .int .i64 vB) (by decide) (fun W' hW=>zf4 ba W' (cc.out _ _ bA.out W' hW) (kkA.out W' hW)) fun w4 L4=>?_;rw[Frame.finish_at];exact qy (A8 (upd x 167 (.int .i64 vB))) w4 ⟨_,rfl,hI.put (by decide) (by decide) (.inl rfl) L4⟩
  ·have qb:=yaw qc;subst qb;have wh:=hI.tab.at (s:=176) (qx ⟨28,.data⟩ (by simp) rfl) rfl rfl;have tg:=hI.tab.at (s:=174) (qx ⟨26,.guard⟩ (by simp) rfl) rfl rfl;refine zap rm_xc rfl (zc1 (g:=26) (sl:=174) (b:=true) rfl rfl (congrArg some tg)) (by decide) rfl Try.func37 (by kernel_rfl) (by kernel_rfl) ?_;walk_nrm;show RM _ _ (G (Frame.enter Try.prog 37 #[x 176] .normal) _) w3;rw[wh];refine zfl (v := .int .i64 vW) (by decide) (fun W' hW=>zd2 wb vW W' (cc.out _ _ wB.out W' hW)) fun w4 L4=>?_;rw[Frame.finish_at];exact qy (A8 (upd x 177 (.int .i64 vW))) w4 ⟨_,rfl,hI.put (by decide) (by decide) (.inl rfl) L4⟩
  ·have qb:=yaw qc;subst qb;have wd:=hI.tab.at (s:=186) (qx ⟨38,.data⟩ (by simp) rfl) rfl rfl;have tg:=hI.tab.at (s:=184) (qx ⟨36,.guard⟩ (by simp) rfl) rfl rfl;refine zap rm_xc rfl (zc1 (g:=36) (sl:=184) (b:=true) rfl rfl (congrArg some tg)) (by decide) rfl Try.func36 (by kernel_rfl) (by kernel_rfl) ?_;walk_nrm;show RM _ _ (G (Frame.enter Try.prog 36 #[x 186] .normal) _) w3;rw[wd];refine zfl (v := .bool vF) (by decide) (fun W' hW=>zd6 fb vF W' (cc.out _ _ fB.out W' hW)) fun w4 L4=>?_;rw[Frame.finish_at];exact qy (A8 (upd x 187 (.bool vF))) w4 ⟨_,rfl,hI.put (by decide) (by decide) (.inl rfl) L4⟩
  ·have qb:=yaw qc;subst qb;have wl:=hI.tab.at (s:=189) (qx ⟨41,.data⟩ (by simp) rfl) rfl rfl;have tg:=hI.tab.at (s:=184) (qx ⟨36,.guard⟩ (by simp) rfl) rfl rfl;refine zap rm_xc rfl (zc1 (g:=36) (sl:=184) (b:=true) rfl rfl (congrArg some tg)) (by decide) rfl Try.func36 (by kernel_rfl) (by kernel_rfl) ?_;walk_nrm;show RM _ _ (G (Frame.enter Try.prog 36 #[x 189] .normal) _) w3;rw[wl];refine zfl (v := .bool vF) (by decide) (fun W' hW=>zd6 fa vF W' (cc.out _ _ fA.out W' hW)) fun w4 L4=>?_;rw[Frame.finish_at];exact qy (A8 (upd x 190 (.bool vF))) w4 ⟨_,rfl,hI.put (by decide) (by decide) (.inl rfl) L4⟩
  ·have qb:=yaw qc;subst qb;have wf:=hI.tab.at (s:=195) (qx ⟨47,.data⟩ (by simp) rfl) rfl rfl;have tg:=hI.tab.at (s:=193) (qx ⟨45,.guard⟩ (by simp) rfl) rfl rfl;refine zap rm_xc rfl (zc1 (g:=45) (sl:=193) (b:=true) rfl rfl (congrArg some tg)) (by decide) rfl Try.func38 (by kernel_rfl) (by kernel_rfl) ?_;walk_nrm;show RM _ _ (G (Frame.enter Try.prog 38 #[x 195] .normal) _) w3;rw[wf];refine zfl (v := .int .i64 vB) (by decide) (fun W' hW=>zf4 bb W' (cc.out _ _ bB.out W' hW) (kkB.out W' hW)) fun w4 L4=>?_;rw[Frame.finish_at];exact qy (A8 (upd x 196 (.int .i64 vB))) w4 ⟨_,rfl,hI.put (by decide) (by decide) (.inl rfl) L4⟩
  ·have qb:=yaw qc;subst qb;have wL:=hI.tab.at (s:=202) (qx ⟨54,.data⟩ (by simp) rfl) rfl rfl;refine zei rfl rfl (by decide) (zai (l:=[_]) (by kernel_rfl) _ (yaj.2 rfl)) (v := .bool true) (fun wp hp=>by
    unfold A8
    go_simp<;>rfl) ?_
   exact qy (A8 (upd x 4 (.bool true))) w3 ⟨_,rfl,fun j h5 hj=>by rw[upd_ne _ _ (by omega)];exact hI.xs j h5 hj,fun j u hj hl=>by
    have q3:j≠55:=fun e=>by rw[e] at hj;cases hj
    rw[zar q3] at hl;rw[upd_ne _ _ (by omega)];exact hI.tab j u hj hl,hI.low,fun _=>rfl⟩
  all_goals
   have qb:=yaw qc;subst qb
   try have t0:=hI.tab.at (s:=148) (zah qx 0 rfl) rfl rfl
   try have t1:=hI.tab.at (s:=149) (zah qx 1 rfl) rfl rfl
   try have t2:=hI.tab.at (s:=150) (zah qx 2 rfl) rfl rfl
   try have t3:=hI.tab.at (s:=151) (zah qx 3 rfl) rfl rfl
   try have t4:=hI.tab.at (s:=152) (zah qx 4 rfl) rfl rfl
   try have t5:=hI.tab.at (s:=153) (zah qx 5 rfl) rfl rfl
   try have t6:=hI.tab.at (s:=154) (zah qx 6 rfl) rfl rfl
   try have t7:=hI.tab.at (s:=155) (zah qx 7 rfl) rfl rfl
   try have t8:=hI.tab.at (s:=156) (zah qx 8 rfl) rfl rfl
   try have t9:=hI.tab.at (s:=157) (zah qx 9 rfl) rfl rfl
   try have qX:=hI.tab.at (s:=158) (zah qx 10 rfl) rfl rfl
   try have qY:=hI.tab.at (s:=159) (zah qx 11 rfl) rfl rfl
   try have wg:=hI.tab.at (s:=160) (zah qx 12 rfl) rfl rfl
   try have wc:=hI.tab.at (s:=161) (zah qx 13 rfl) rfl rfl
   try have wH:=hI.tab.at (s:=162) (zah qx 14 rfl) rfl rfl
   try have wI:=hI.tab.at (s:=163) (zah qx 15 rfl) rfl rfl
   try have wm:=hI.tab.at (s:=164) (zah qx 16 rfl) rfl rfl
   try have t17:=hI.tab.at (s:=165) (zah qx 17 rfl) rfl rfl
   try have qP:=hI.tab.at (s:=166) (zah qx 18 rfl) rfl rfl
   try have t19:=hI.tab.at (s:=167) (zah qx 19 rfl) rfl rfl
   try have t20:=hI.tab.at (s:=168) (zah qx 20 rfl) rfl rfl
   try have t21:=hI.tab.at (s:=169) (zah qx 21 rfl) rfl rfl
   try have t22:=hI.tab.at (s:=170) (zah qx 22 rfl) rfl rfl
   try have t23:=hI.tab.at (s:=171) (zah qx 23 rfl) rfl rfl
   try have t24:=hI.tab.at (s:=172) (zah qx 24 rfl) rfl rfl
   try have t25:=hI.tab.at (s:=173) (zah qx 25 rfl) rfl rfl
   try have t26:=hI.tab.at (s:=174) (zah qx 26 rfl) rfl rfl
   try have t27:=hI.tab.at (s:=175) (zah qx 27 rfl) rfl rfl
   try have wh:=hI.tab.at (s:=176) (zah qx 28 rfl) rfl rfl
   try have t29:=hI.tab.at (s:=177) (zah qx 29 rfl) rfl rfl
   try have t30:=hI.tab.at (s:=178) (zah qx 30 rfl) rfl rfl
   try have t31:=hI.tab.at (s:=179) (zah qx 31 rfl) rfl rfl
   try have t32:=hI.tab.at (s:=180) (zah qx 32 rfl) rfl rfl
   try have t33:=hI.tab.at (s:=181) (zah qx 33 rfl) rfl rfl
   try have t34:=hI.tab.at (s:=182) (zah qx 34 rfl) rfl rfl
   try have t35:=hI.tab.at (s:=183) (zah qx 35 rfl) rfl rfl
   try have t36:=hI.tab.at (s:=184) (zah qx 36 rfl) rfl rfl
   try have t37:=hI.tab.at (s:=185) (zah qx 37 rfl) rfl rfl
   try have wd:=hI.tab.at (s:=186) (zah qx 38 rfl) rfl rfl
   try have t39:=hI.tab.at (s:=187) (zah qx 39 rfl) rfl rfl
   try have t40:=hI.tab.at (s:=188) (zah qx 40 rfl) rfl rfl
   try have wl:=hI.tab.at (s:=189) (zah qx 41 rfl) rfl rfl
   try have t42:=hI.tab.at (s:=190) (zah qx 42 rfl) rfl rfl
   try have t43:=hI.tab.at (s:=191) (zah qx 43 rfl) rfl rfl
   try have t44:=hI.tab.at (s:=192) (zah qx 44 rfl) rfl rfl
   try have t45:=hI.tab.at (s:=193) (zah qx 45 rfl) rfl rfl
   try have t46:=hI.tab.at (s:=194) (zah qx 46 rfl) rfl rfl
   try have wf:=hI.tab.at (s:=195) (zah qx 47 rfl) rfl rfl
   try have t48:=hI.tab.at (s:=196) (zah qx 48 rfl) rfl rfl
   try have t49:=hI.tab.at (s:=197) (zah qx 49 rfl) rfl rfl
   try have t50:=hI.tab.at (s:=198) (zah qx 50 rfl) rfl rfl
   try have t51:=hI.tab.at (s:=199) (zah qx 51 rfl) rfl rfl
   try have t52:=hI.tab.at (s:=200) (zah qx 52 rfl) rfl rfl
   try have t53:=hI.tab.at (s:=201) (zah qx 53 rfl) rfl rfl
   try have wL:=hI.tab.at (s:=202) (zah qx 54 rfl) rfl rfl
   refine hI.op (by decide) (by decide) (by decide) rfl rfl (zai (l:=[_]) (by kernel_rfl) _ (yaj.2 rfl)) rfl (by first|rfl|exact zc1 (g:=8) (sl:=156) (b:=true) rfl rfl (congrArg some (hI.tab.at (s:=156) (zah qx 8 rfl) rfl rfl))|exact zc1 (g:=16) (sl:=164) (b:=true) rfl rfl (congrArg some (hI.tab.at (s:=164) (zah qx 16 rfl) rfl rfl))|exact zc1 (g:=26) (sl:=174) (b:=true) rfl rfl (congrArg some (hI.tab.at (s:=174) (zah qx 26 rfl) rfl rfl))|exact zc1 (g:=36) (sl:=184) (b:=true) rfl rfl (congrArg some (hI.tab.at (s:=184) (zah qx 36 rfl) rfl rfl))|exact zc1 (g:=45) (sl:=193) (b:=true) rfl rfl (congrArg some (hI.tab.at (s:=193) (zah qx 45 rfl) rfl rfl))) (fun wp hp=>?_) qy;have q_h2:=cc.out _ _ h2.out wp hp.heap;have q_s0:=cc.out _ _ s0.out wp hp.heap;have q_s1:=cc.out _ _ s1.out wp hp.heap;have q_s2:=cc.out _ _ s2.out wp hp.heap;have q_ka0:=cc.out _ _ ka0.out wp hp.heap;have q_ka1:=cc.out _ _ ka1.out wp hp.heap;have q_ka2:=cc.out _ _ ka2.out wp hp.heap;have q_kb0:=cc.out _ _ kb0.out wp hp.heap;have q_kb1:=cc.out _ _ kb1.out wp hp.heap;have q_kb2:=cc.out _ _ kb2.out wp hp.heap;unfold A8
   try unfold gpv at *
   go_simp<;>rfl
end
theorem z2r{wp w2:World}{lo:Nat}{L:List OpD}{V:Value}(hlo:lo≤wp.heap.size)(h:zjd (wp.alloc (.cells #[] 45)) lo 45 (.slice (some ⟨wp.heap.size,0,none⟩) 0 0) 0 L.length (zob L) V w2):OcV lo V L 0 w2∧LeftW wp w2:=by
 obtain⟨wk,qJ,hp1⟩:=h;rw[Nat.zero_add] at wk;have sA:(wp.alloc (.cells #[] 45)).heap.size=wp.heap.size+1:=by simp
 refine⟨z4z wk,⟨fun b hb=>(qJ.block b (by omega) fun q=>by simp only[Value.ownBlock,Option.some.injEq] at q;omega).trans (Below.heap_alloc _ _ _ hb),by have:=qJ.size;omega,qJ.os,qJ.output⟩⟩
noncomputable def D8:Code:=cB (cB (cB (cB c8)))
section
variable{Z:Machine→Trace→Prop}{cs:List Frame}{w:World}{cap:Nat}{ao:Option Addr}{L:List OpD}{z:Nat→Value}{R:List Item}
theorem own8(hops:OpsIn w ao L.length cap L)(hnil:ao=none→cap=0)(hL:L.length≤1000000000)(z0:z 0=z 0)(z1:z 1 = .slice ao L.length cap)
  (qu:∀y vp vc w',(∀j,j<5→y j=z j)→y 5 = .slice vp L.length vc→OpsIn w' vp (L.map zer).length vc (L.map zer)→LeftW w w'→RM Try.prog Z (G ((base 8).at (A8 y) (.code D8::R)) cs) w') :
  RM Try.prog Z (G ((base 8).at (A8 z) (.code (cB (cB c8))::R)) cs) w:=by
 obtain⟨i4,wJ,ww,qO,qM⟩:=info_parts z21;have q7:=hops.1;obtain⟨n,hn⟩:∃n,L.length=n:=⟨_,rfl⟩;have qi:=yay fun(y:Nat→Value) vp vc w' (h1:∀j,j<5→y j=z j) (h2:y 5 = .slice vp L.length vc) h3 h4=>qu y vp vc w' h1 h2 h3 h4;clear qu;rw[hn] at hL z1;replace hops:=yay hops;replace hnil:=yay hnil;replace q7:=yay q7;replace hn:=yay hn;refine zas (c:=cB (cB c8)) rm_xc rfl fun R0 qv=>?_;rw[show cA (cB (cB c8))=Code.region _ _ _ from rfl]
 unfold A8;simp only[z1];refine zbn zut (zac zag (by kernel_rfl)) rfl (zaa Try.func8) rfl fun wp hp=>?_;have Lp:LeftW w wp := .of_sim hp.heap hp.outs;have HE:=yay (zzg (w:=wp) (base:=w.heap.size) (e:=45) (sz:=4) Lp.size);have qR:=yay (z6u (hops.out.keep (w':=wp.alloc (.cells #[] 45)) fun b hb=>(Below.heap_alloc _ _ _ (Nat.lt_of_lt_of_le hb Lp.size)).trans (Lp.same b hb)) hnil.out);rw[hn.out] at qR;have hlo:=yay Lp.size;have qG:Hid (w.heap.size≤(wp.alloc (.cells #[] 45)).heap.size):=yay (by have:=Lp.size;simp;omega);replace Lp:=yay Lp;clear hp
 go_wp2_with (at_builtin;(refine zih rfl (.tmp 17) (.tmp 18) 34 rfl w.heap.size 45 i4 _ _ Try.underlying34 wJ ww qO qM rfl (.slice (some ⟨wp.heap.size,0,none⟩) 0 0) 0 _ rfl HE.out n _ qR.out ?l2 ?b2 ?n2 ?_);(case l2=>(unfold maxLen;omega));(case b2=>omega);(case n2=>exact qG.out);intro V w2 ha;(obtain⟨HV,HL⟩:=z2r (L:=L) hlo.out (by rw[hn.out];rwa[yas] at ha));clear ha;(replace HL:=yay HL);(obtain⟨vp,vc,hV,qL,qK⟩:=HV);(have HV:Hid (OcV w.heap.size V L 0 w2):=yay ⟨vp,vc,hV,qL,qK⟩);(rw[hn.out] at hV);subst hV;(replace qK:=yay qK);(replace qL:=yay qL))
 refine fun w3 h3=>?_;have HW:Hid (OcV w.heap.size (.slice vp n vc) L 0 w3∧LeftW w w3):=yay ⟨HV.out.same fun b hb=>by rw[h3.heap],(Lp.out.trans HL.out).sim h3⟩;clear h3 HV HL Lp HE qR qG hlo qK qL w2;obtain rfl:=qv.out;clear qv;refine zas (c:=cB (cB (cB c8))) rm_xc rfl fun R0 qv=>?_;rw[show cA (cB (cB (cB c8)))=Code.seq _ _ from rfl]
 generalize wp.heap.size=wps;clear wp;refine zbn zut (zac zag (by kernel_rfl)) rfl (zaa Try.func8) rfl fun wp hp=>?_;have H0:Hid (OcV w.heap.size (.slice vp n vc) L 0 wp∧LeftW w wp):=yay ⟨HW.out.1.same fun b hb=>by rw[hp.heap],HW.out.2.trans (.of_sim hp.heap hp.outs)⟩;clear hp HW
 go_wp2_with fail
 go_loopw [6] (fun iv wr=>∃j:Nat,j≤n∧iv = .int .i64 j∧Hid (OcV w.heap.size (.slice vp n vc) L j wr∧LeftW w wr)) (fun iv _=>n - (intOf iv).toNat)
 case atStart=>exact⟨0,by omega,rfl,H0⟩
 case round =>
  obtain⟨j,hj,rfl,HJ⟩:=hrel;by_cases qr:j<n
  ·have qh:(j:Int)<(n:Int):=by omega
   have ws:(0:Int)≤(j:Int):=by omega
   have nx:IntKind.i64.wrap ((j:Int)+1)=((j+1:Nat):Int):=by rw[IntKind.wrap_i64];omega
   obtain⟨hO,q8⟩:=HJ.out;have wu:=hO;obtain⟨vp',vc',e,h1,h2⟩:=wu;simp only[Value.slice.injEq] at e;obtain⟨rfl,-,rfl⟩:=e;obtain⟨g,cur,rfl,wz,we,qe⟩:=h2 (by intro q;have:=hn.out;rw[q] at this;simp at this;omega);have f1:=zam we (j*4+1);obtain⟨p,hp⟩:∃p,L[j]?=some p:=⟨_,List.getElem?_eq_getElem (by rw[hn.out];exact qr)⟩;have c1:=(qe j p hp).2.1;have HN:Hid (OcV w.heap.size (.slice (some ⟨g,0,none⟩) n vc) L (j+1) (wr.setCell ⟨g,j*4+1,none⟩ (.int .i64 0))∧LeftW w (wr.setCell ⟨g,j*4+1,none⟩ (.int .i64 0))):=yay ⟨by
     have:=hn.out;rw[←this] at hO⊢;exact hO.step,⟨fun b hb=>(zrv (by omega)).trans (q8.same b hb),by have:=q8.size;simpa using this,q8.outs⟩⟩
   clear hO q8 h1 h2 qe we HJ hp
   go_wp2_with fail
   refine⟨⟨j+1,by omega,by rw[Int.natCast_add];rfl,HN⟩,by simp[intOf];omega⟩
  ·have qh:¬(j:Int)<(n:Int):=by omega
   obtain rfl:j=n:=by omega
   go_wp2_with fail
   refine fun w4 h4=>?_;obtain⟨hO,q8⟩:=HJ.out;obtain rfl:=qv.out;rw[zh8 _ rfl];have wG:=hO.same (w':=w4) fun b hb=>by rw[h4.heap]
   refine qi.out _ vp vc w4 (fun k hk=>?_) (by rw[hn.out];rfl) (OcV.ops q7.out (by rw[hn.out];exact wG)) (q8.sim h4);rcases k with _|_|_|_|_|k<;>first|rfl|exact z1.symm|omega
end
def tv21(N ba oa ca bb ob ln cap jj:Nat)(r:Ans)(u1 u2 v3:Value):Nat→Option Value
 | 0=>some (zf9 r u1)|1=>some (zf9 r u2)|3=>some (.pointer (some ⟨N,0,none⟩))|4=>some (.slice (some ⟨ba,oa,none⟩) 1 ca)|5=>some (.pointer (some ⟨ba,oa,none⟩))|6=>some (.slice (some ⟨bb,ob,none⟩) ln cap)|7=>some (.int .i64 jj)|8=>some (.pointer (some ⟨bb,ob+jj*3,none⟩))|9=>some (zf9 r v3)
 | 10=>some (.pointer (some ⟨N,0,none⟩))|11=>some (.slice (some ⟨ba,oa,none⟩) 1 ca)|12=>some (.pointer (some ⟨ba,oa,none⟩))|13=>some (.slice (some ⟨bb,ob,none⟩) ln cap)|14=>some (.int .i64 jj)|15=>some (.pointer (some ⟨bb,ob+jj*3,none⟩))|16=>some (zf9 r v3)
 | _=>none
structure I21(W:World)(tv:Nat→Option Value)(r:Ans)(z:Nat→Value)(qz:Array Bool)(x:Nat→Value)(w:World):Prop where
 xs:∀j,j<14→x j=z j
 tab:Tab tv 108 qz x
 low:LeftW W w
 a:qz.getD 2 false=true→AnsIn w (x 110) [r,r]
 b:qz.getD 17 false=true→AnsIn w (x 125) [r,r]
 c:qz.getD 18 false=true→x 126 = .bool true
 d:qz.getD 19 false=true→x 127 = .bool false
section
variable{W w w':World}{tv:Nat→Option Value}{r:Ans}{z x:Nat→Value}{qz:Array Bool}
theorem I21.put(h:I21 W tv r z qz x w){i:Nat}{u:Value}(hi:i<17∧i≠2)(ht:tv i=some u):I21 W tv r z (qz.setIfInBounds i true) (upd x (108+i) u) w :=
 ⟨fun j hj=>by rw[upd_ne _ _ (by omega)];exact h.xs j hj,h.tab.put (.inl ht),h.low,
  fun q=>by rw[upd_ne _ _ (by omega)];exact h.a (by rwa[zar (by omega)] at q),fun q=>by rw[upd_ne _ _ (by omega)];exact h.b (by rwa[zar (by omega)] at q),
  fun q=>by rw[upd_ne _ _ (by omega)];exact h.c (by rwa[zar (by omega)] at q),fun q=>by rw[upd_ne _ _ (by omega)];exact h.d (by rwa[zar (by omega)] at q)⟩
theorem I21.grow(h:I21 W tv r z qz x w)(l:LeftW w w'):I21 W tv r z qz x w' :=
 ⟨h.xs,h.tab,h.low.trans l,fun q=>(h.a q).keep l.same,fun q=>(h.b q).keep l.same,h.c,h.d⟩
theorem I21.put'(h:I21 W tv r z qz x w){i:Nat}{u:Value}(hi:i=2∨i=17∨i=18∨i=19)(hn:tv i=none)(ha:i=2∨i=17→AnsIn w u [r,r])(hc:i=18→u = .bool true)(hd:i=19→u = .bool false):I21 W tv r z (qz.setIfInBounds i true) (upd x (108+i) u) w:=by
 refine⟨fun j hj=>by rw[upd_ne _ _ (by omega)];exact h.xs j hj,h.tab.put (.inr hn),h.low,fun q=>?_,fun q=>?_,fun q=>?_,fun q=>?_⟩
 ·by_cases e:i=2
  ·subst e;rw[upd_same];exact ha (.inl rfl)
  ·rw[upd_ne _ _ (by omega)];exact h.a (by rwa[zar (by omega)] at q)
 ·by_cases e:i=17
  ·subst e;rw[upd_same];exact ha (.inr rfl)
  ·rw[upd_ne _ _ (by omega)];exact h.b (by rwa[zar (by omega)] at q)
 ·by_cases e:i=18
  ·subst e;rw[upd_same];exact hc rfl
  ·rw[upd_ne _ _ (by omega)];exact h.c (by rwa[zar (by omega)] at q)
 ·by_cases e:i=19
  ·subst e;rw[upd_same];exact hd rfl
  ·rw[upd_ne _ _ (by omega)];exact h.d (by rwa[zar (by omega)] at q)
end
theorem I21.op{W w:World}{tv:Nat→Option Value}{r:Ans}{z x:Nat→Value}{qz:Array Bool}{Z:Machine→Trace→Prop}{k:List Item}{cs:List Frame}{ops:Array Oper}{i:Nat}{rest:List Nat}{o:Oper}{v:Value}(hI:I21 W tv r z qz x w)(hi:i<17∧i≠2)
  (ho:ops[i]?=some o) (hd:o.dst=some (108+i)) (hc:zcw true Try.prog (fun _=>False) o) (ht:tv i=some v) (hw:Region.wanted o (yielded ops (A8 x).tmps)=true) (hr:∀wp,Sim wp w→(execOp (A8 x).eval o).run Try.prog wp = .ok (.value v) wp)
  (qy:∀a w',(∃x,a=A8 x∧I21 W tv r z (qz.setIfInBounds i true) x w')→RM Try.prog Z (G ((base 8).at a (.inRegion ops rest::k)) cs) w'):RM Try.prog Z (G ((base 8).at (A8 x) (.inRegion ops (i::rest)::k)) cs) w:=by
 refine zei ho hw (by decide) hc hr ?_;rw[hd,z1h (by omega)];exact qy _ _ ⟨_,rfl,hI.put hi ht⟩
section
variable{Z:Machine→Trace→Prop}{c:Frame}{cs:List Frame}{W:World}{N K K' ba oa ca bb ob ln cap jj:Nat}{r:Ans}{u1 u2 v3 vo vs st:Value}{z:Nat→Value}{R:List Item}
theorem z7c(z3:z 7 = .pointer (some ⟨N,0,none⟩))(z7:z 11 = .int .i64 jj)(z8:z 12 = .pointer (some ⟨K,0,none⟩))(z9:z 13 = .pointer (some ⟨K',0,none⟩))(hjl:jj<ln)
  (hN:W.cell? ⟨N,0,none⟩=some (.slice (some ⟨ba,oa,none⟩) 1 ca)) (hA:W.cell? ⟨ba,oa,none⟩=some (.slice (some ⟨bb,ob,none⟩) ln cap))
  (hb0:W.cell? ⟨bb,ob+jj*3,none⟩=some (.bool r.ok)) (hb1:W.cell? ⟨bb,ob+jj*3+1,none⟩=some (.int .i64 r.n)) (hb2:W.cell? ⟨bb,ob+jj*3+2,none⟩=some v3) (i3:IntsAt W v3 r.l)
  (hK:W.heap[K]?=some (.cells #[.bool r.ok,.int .i64 r.n,u1] 42 (0,0))) (hK':W.heap[K']?=some (.cells #[.bool r.ok,.int .i64 r.n,u2] 42 (0,0))) (i1:IntsAt W u1 r.l) (i2:IntsAt W u2 r.l) (hr:r.l.length≤1000000000)
  (qu:∀x w',(∀j,j<14→x j=z j)→LeftW W w'→RM Try.prog Z (G ((base 8).at (A8 x) R) cs) w') :
  RM Try.prog Z (G ((base 8).at (A8 z) (.code (cB (cB (cB in8)))::R)) cs) W:=by
 have qi:=yay fun(x:Nat→Value) (hx:∀j,j<14→x j=z j) w' l=>qu x w' hx l;clear qu;have k0:=zab hK 0;have k1:=zab hK 1;have k2:=zab hK 2;have k3:=zab hK' 0;have k4:=zab hK' 1;have k5:=zab hK' 2;simp only[yac,yaa,yab] at k0 k1 k2 k3 k4 k5;clear hK hK';have qh:(jj:Int)<(ln:Int):=by omega
 have ws:(0:Int)≤(jj:Int):=by omega
 have j1:=i1;have j2:=i2;have j3:=i3;obtain⟨a1,g1,rfl⟩:=zjn i1;obtain⟨a2,g2,rfl⟩:=zjn i2;obtain⟨a3,g3,rfl⟩:=zjn i3;obtain⟨nl,qo⟩:∃n,r.l.length=n:=⟨_,rfl⟩;rw[qo] at j1 j2 j3 k2 k5 hb2 hr;clear i1 i2 i3;rw[show cB (cB (cB in8))=Code.seq (Code.region _ _ _) _ from rfl]
 refine zaf rm_xc fun R0 qv=>?_;refine zn4 rfl (fun qz a w=>∃x,a=A8 x∧I21 W (tv21 N ba oa ca bb ob ln cap jj r (.slice a1 nl g1) (.slice a2 nl g2) (.slice a3 nl g3)) r z qz x w) ?i0 ?ie ?ist
 case i0=>exact⟨z,rfl,fun _ _=>rfl,.zero,.refl,fun q=>(by rw[getD_replicate_false] at q;cases q),fun q=>(by rw[getD_replicate_false] at q;cases q),fun q=>(by rw[getD_replicate_false] at q;cases q),fun q=>(by rw[getD_replicate_false] at q;cases q)⟩
 case ie =>
  rintro qz a w qp qE ⟨x,rfl,hI⟩;have ql:=zhh (zs7 (by kernel_rfl)) qp qE;have wD:=hI.d (ql 19 (by decide));refine zad rm_xc ?_;obtain rfl:=qv.out;refine zau rm_xc (t:=false) (by show x 127=_;exact wD) ?_;refine zbf rm_xc ?_;exact qi.out x hI.xs w hI.low
 case ist =>
  rintro qz i qp qA a w3 rr ⟨x,rfl,hI⟩ qy;obtain⟨wi,op,qc,qx⟩:=mem_ready.1 qA;have wq:i<20:=by
   have:=(yah.1 qc).1
   simpa using this
  have x3:=(hI.xs 7 (by decide)).trans z3;have x7:=(hI.xs 11 (by decide)).trans z7;have x8:=(hI.xs 12 (by decide)).trans z8;have x9:=(hI.xs 13 (by decide)).trans z9;have cc:Hid (∀(a:Addr) v,W.cell? a=some v→∀wp:World,Sim wp w3→wp.cell? a=some v):=yay fun a v q wp hp=>by
   refine(World.cell?_of_block (w:=W) ?_).trans q;show wp.heap[a.block]?=W.heap[a.block]?;rw[hp.heap];exact hI.low.same _ (World.block_lt_of_cell? W _ q)
  replace k0:=yay k0;replace k1:=yay k1;replace k2:=yay k2;replace k3:=yay k3;replace k4:=yay k4;replace k5:=yay k5;replace hN:=yay hN;replace hA:=yay hA;replace hb0:=yay hb0;replace hb1:=yay hb1;replace hb2:=yay hb2;have qg:i=2∨i=17∨i=18∨i=19∨i=0∨i=1∨i=3∨i=4∨i=5∨i=6∨i=7∨i=8∨i=9∨i=10∨i=11∨i=12∨i=13∨i=14∨i=15∨i=16:=by omega
  rcases qg with rfl|rfl|rfl|rfl|rfl|rfl|rfl|rfl|rfl|rfl|rfl|rfl|rfl|rfl|rfl|rfl|rfl|rfl|rfl|rfl
  ·have qb:=yaw qc;subst qb;have t0:=hI.tab.at (s:=108) (qx ⟨0,.data⟩ (by simp) rfl) rfl rfl;have t1:=hI.tab.at (s:=109) (qx ⟨1,.data⟩ (by simp) rfl) rfl rfl;refine z0z rfl rfl (by decide) (zai (l:=[_]) (by kernel_rfl) _ (yaj.2 rfl)) (v := .slice (some ⟨w3.heap.size,0,none⟩) 2 2) (w2:=w3.alloc (.cells #[.bool r.ok,.int .i64 r.n,.slice a1 nl g1,.bool r.ok,.int .i64 r.n,.slice a2 nl g2] 42)) (by
    unfold A8;unfold zf9 at *
    go_simp<;>rfl) rfl fun w4 h4=>?_
   have L4:LeftW w3 w4:=(LeftW.refl.alloc _).sim h4;have q4:w4.heap[w3.heap.size]?=some (.cells #[.bool r.ok,.int .i64 r.n,.slice a1 nl g1,.bool r.ok,.int .i64 r.n,.slice a2 nl g2] 42 (0,0)):=by rw[h4.heap];exact heap_alloc_new _ _
   have hL:=hI.low.trans L4;have A:=zqx (r:=r) (r':=r) q4 (by rw[←qo];exact(qo▸j1).mono hL.same) (by rw[←qo];exact(qo▸j2).mono hL.same);refine qy (A8 (upd x 110 (.slice (some ⟨w3.heap.size,0,none⟩) 2 2))) w4 ⟨_,rfl,(hI.grow L4).put' (i:=2) (by omega) rfl (fun _=>A) (fun z=>by omega) (fun z=>by omega)⟩
  ·have qb:=yaw qc;subst qb;have t9:=hI.tab.at (s:=117) (qx ⟨9,.data⟩ (by simp) rfl) rfl rfl;have wm:=hI.tab.at (s:=124) (qx ⟨16,.data⟩ (by simp) rfl) rfl rfl;refine z0z rfl rfl (by decide) (zai (l:=[_]) (by kernel_rfl) _ (yaj.2 rfl)) (v := .slice (some ⟨w3.heap.size,0,none⟩) 2 2) (w2:=w3.alloc (.cells #[.bool r.ok,.int .i64 r.n,.slice a3 nl g3,.bool r.ok,.int .i64 r.n,.slice a3 nl g3] 42)) (by
    unfold A8;unfold zf9 at *
    go_simp<;>rfl) rfl fun w4 h4=>?_
   have L4:LeftW w3 w4:=(LeftW.refl.alloc _).sim h4;have q4:w4.heap[w3.heap.size]?=some (.cells #[.bool r.ok,.int .i64 r.n,.slice a3 nl g3,.bool r.ok,.int .i64 r.n,.slice a3 nl g3] 42 (0,0)):=by rw[h4.heap];exact heap_alloc_new _ _
   have hL:=hI.low.trans L4;have A:=zqx (r:=r) (r':=r) q4 (by rw[←qo];exact(qo▸j3).mono hL.same) (by rw[←qo];exact(qo▸j3).mono hL.same);refine qy (A8 (upd x 125 (.slice (some ⟨w3.heap.size,0,none⟩) 2 2))) w4 ⟨_,rfl,(hI.grow L4).put' (i:=17) (by omega) rfl (fun _=>A) (fun z=>by omega) (fun z=>by omega)⟩
  ·have qb:=yaw qc;subst qb;have d2:qz.getD 2 false=true:=qx ⟨2,.data⟩ (by simp) rfl;have wv:qz.getD 17 false=true:=qx ⟨17,.data⟩ (by simp) rfl;refine zap rm_xc rfl rfl (by decide) rfl Try.func22 (by kernel_rfl) (by kernel_rfl) ?_;walk_nrm;show RM _ _ (G (Frame.enter Try.prog 22 #[x 110,x 125] .normal) _) w3;refine zun (l:=[r,r]) (fun q hq=>by rw[show q=r by simpa using hq,qo];exact hr) (hI.a d2) (hI.b wv) (by simp) fun w4 L4=>?_;rw[Frame.finish_at];exact qy (A8 (upd x 126 (.bool true))) w4 ⟨_,rfl,(hI.grow L4).put' (i:=18) (by omega) rfl (fun z=>by omega) (fun _=>rfl) (fun z=>by omega)⟩
  ·have qb:=yaw qc;subst qb;have wE:qz.getD 18 false=true:=qx ⟨18,.data⟩ (by simp) rfl;have qP:=hI.c wE;refine zei rfl rfl (by decide) (zai (l:=[_]) (by kernel_rfl) _ (yaj.2 rfl)) (v := .bool false) (fun wp hp=>by
    unfold A8
    go_simp<;>rfl) ?_
   exact qy (A8 (upd x 127 (.bool false))) w3 ⟨_,rfl,hI.put' (i:=19) (by omega) rfl (fun z=>by omega) (fun z=>by omega) (fun _=>rfl)⟩
  all_goals
   have qb:=yaw qc;subst qb
   try have t0:=hI.tab.at (s:=108) (zah qx 0 rfl) rfl rfl
   try have t1:=hI.tab.at (s:=109) (zah qx 1 rfl) rfl rfl
   try have t3:=hI.tab.at (s:=111) (zah qx 3 rfl) rfl rfl
   try have t4:=hI.tab.at (s:=112) (zah qx 4 rfl) rfl rfl
   try have t5:=hI.tab.at (s:=113) (zah qx 5 rfl) rfl rfl
   try have t6:=hI.tab.at (s:=114) (zah qx 6 rfl) rfl rfl
   try have t7:=hI.tab.at (s:=115) (zah qx 7 rfl) rfl rfl
   try have t8:=hI.tab.at (s:=116) (zah qx 8 rfl) rfl rfl
   try have t9:=hI.tab.at (s:=117) (zah qx 9 rfl) rfl rfl
   try have qX:=hI.tab.at (s:=118) (zah qx 10 rfl) rfl rfl
   try have qY:=hI.tab.at (s:=119) (zah qx 11 rfl) rfl rfl
   try have wg:=hI.tab.at (s:=120) (zah qx 12 rfl) rfl rfl
   try have wc:=hI.tab.at (s:=121) (zah qx 13 rfl) rfl rfl
   try have wH:=hI.tab.at (s:=122) (zah qx 14 rfl) rfl rfl
   try have wI:=hI.tab.at (s:=123) (zah qx 15 rfl) rfl rfl
   try have wm:=hI.tab.at (s:=124) (zah qx 16 rfl) rfl rfl
   refine hI.op (by decide) rfl rfl (zai (l:=[_]) (by kernel_rfl) _ (yaj.2 rfl)) rfl rfl (fun wp hp=>?_) qy;have q_k0:=cc.out _ _ k0.out wp hp;have q_k1:=cc.out _ _ k1.out wp hp;have q_k2:=cc.out _ _ k2.out wp hp;have q_k3:=cc.out _ _ k3.out wp hp;have q_k4:=cc.out _ _ k4.out wp hp;have q_k5:=cc.out _ _ k5.out wp hp;have q_hN:=cc.out _ _ hN.out wp hp;have q_hA:=cc.out _ _ hA.out wp hp;have q_hb0:=cc.out _ _ hb0.out wp hp;have q_hb1:=cc.out _ _ hb1.out wp hp;have q_hb2:=cc.out _ _ hb2.out wp hp;unfold A8
   try unfold gpv opV zf9 at *
   go_simp<;>rfl
end
theorem KE.sub{P:P8}{X X':List (Nat×Obj)}{w0 w:World}{n:Nat}{sz sw:za7}{oz ow:Nat→Owner}(h:KE P X' w0 n sz sw oz ow w)(hs:∀p∈X,p∈X'):KE P X w0 n sz sw oz ow w:=⟨h.ks,fun K o hm=>h.ex K o (hs _ hm)⟩
structure Y8(va:Value)(N ka kb sb j:Nat)(x:Nat→Value):Prop where
 x5:x 5=va
 x7:x 7 = .pointer (some ⟨N,0,none⟩)
 x8:x 8 = .pointer (some ⟨ka,0,none⟩)
 x9:x 9 = .pointer (some ⟨kb,0,none⟩)
 x10:x 10 = .pointer (some ⟨sb,0,none⟩)
 x11:x 11 = .int .i64 j
theorem Y8.of{va:Value}{N ka kb sb j:Nat}{x y:Nat→Value}(h:Y8 va N ka kb sb j x)(e:∀j,j<12→y j=x j):Y8 va N ka kb sb j y :=
 ⟨(e 5 (by decide)).trans h.x5,(e 7 (by decide)).trans h.x7,(e 8 (by decide)).trans h.x8,(e 9 (by decide)).trans h.x9,(e 10 (by decide)).trans h.x10,(e 11 (by decide)).trans h.x11⟩
section
variable{Z:Machine→Trace→Prop}{cs:List Frame}{w0:World}{P:P8}{X:List (Nat×Obj)}{N ka kb ba oa ca cap:Nat}{ao:Option Addr}{L L':List OpD}{s0:za7}{ua:Value}{R:List Item}
theorem zsk(hops:OpsIn w0 ao L.length cap L)(hL:L.length≤9223372036854775807)(hL':L'=L.take 65536)(hka:(ka,thO P.wa P.fa P.ba)∈X)(hkb:(kb,thO P.wb P.fb P.bb)∈X)
  (hN0:w0.cell? ⟨N,0,none⟩=some (.slice (some ⟨ba,oa,none⟩) 1 ca)) (hA:w0.cell? ⟨ba,oa,none⟩=some ua) (hAns:AnsIn w0 ua (ztz s0 L'))
  (qu:∀x oz ow w,Y8 (.slice ao L.length cap) N ka kb P.sb (min L.length 1000) x→KE P X w0 (zf0 s0 (L.take (min L.length 1000))) (zo2 s0 (L.take (min L.length 1000))) (zo2 s0 (L.take (min L.length 1000))) oz ow w→RM Try.prog Z (G ((base 8).at (A8 x) R) cs) w) :
  ∀(k j:Nat),j+k=min L.length 1000→∀x oz ow w,Y8 (.slice ao L.length cap) N ka kb P.sb j x→KE P X w0 (zf0 s0 (L.take j)) (zo2 s0 (L.take j)) (zo2 s0 (L.take j)) oz ow w→RM Try.prog Z (G ((base 8).at (A8 x) (.code zqd :: .inLoop zqd :: .inBlock 2::R)) cs) w:=by
 obtain⟨au,cu,rfl,qa⟩:=hAns;rw[ztx] at hA;have qj:L'.length≤65536:=by rw[hL'];simp;omega
 intro k
 induction k with
 | zero =>
  intro j hj x oz ow w hx I;obtain rfl:j=min L.length 1000:=by omega
  obtain⟨n,hn⟩:∃n,L.length=n:=⟨_,rfl⟩;have qm:=yay fun x oz ow w h I=>qu x oz ow w h I;rw[hn] at hx hL;rw[hn] at I;clear qu hops qa qj hA hN0 hj;obtain⟨j,q9⟩:∃j,min n 1000=j:=⟨_,rfl⟩;rw[q9] at hx I;rw[hn,q9] at qm;by_cases qr:j<n
  ·have qF:¬(j:Int)<1000:=by omega
   have qh:(j:Int)<(n:Int):=by omega
   replace q9:=yay q9;replace hn:=yay hn;clear qr hL;refine zas rm_xc rfl fun R0 qv=>?_;rw[show cA zqd=Code.seq _ _ from rfl]
   unfold A8;simp only[hx.x5,hx.x7,hx.x8,hx.x9,hx.x10,hx.x11];refine zaf rm_xc fun R1 qs=>?_;refine zbn zut (zac zag (by kernel_rfl)) rfl (zaa Try.func8) rfl fun wp hp=>?_;replace hp:=yay hp
   go_wp2_with fail
   refine fun w1 h1=>?_;replace I:=I.sim (h1.heap.trans hp.out.heap) ⟨h1.outs.1.trans hp.out.outs.1,h1.outs.2.trans hp.out.outs.2⟩;clear h1 hp wp;obtain rfl:=qs.out;clear qs;refine zau rm_xc (t:=false) rfl ?_;obtain rfl:=qv.out;refine zie rm_xc rfl ?_;rw[zh8 _ rfl];refine qm.out _ oz ow _ ?_ I;exact⟨rfl,rfl,rfl,rfl,rfl,rfl⟩
  ·have qh:¬(j:Int)<(n:Int):=by omega
   replace q9:=yay q9;replace hn:=yay hn;clear qr hL;refine zas rm_xc rfl fun R0 qv=>?_;rw[show cA zqd=Code.seq _ _ from rfl]
   unfold A8;simp only[hx.x5,hx.x7,hx.x8,hx.x9,hx.x10,hx.x11];refine zaf rm_xc fun R1 qs=>?_;refine zbn zut (zac zag (by kernel_rfl)) rfl (zaa Try.func8) rfl fun wp hp=>?_;replace hp:=yay hp
   go_wp2_with fail
   refine fun w1 h1=>?_;replace I:=I.sim (h1.heap.trans hp.out.heap) ⟨h1.outs.1.trans hp.out.outs.1,h1.outs.2.trans hp.out.outs.2⟩;clear h1 hp wp;obtain rfl:=qs.out;clear qs;refine zau rm_xc (t:=false) rfl ?_;obtain rfl:=qv.out;refine zie rm_xc rfl ?_;rw[zh8 _ rfl];refine qm.out _ oz ow _ ?_ I;exact⟨rfl,rfl,rfl,rfl,rfl,rfl⟩
 | succ k ih =>
  intro j hj x oz ow w hx I;have qq:j<L.length:=by omega
  have qn:j<1000:=by omega
  have qT:j<L'.length:=by rw[hL'];simp;omega
  have nx:IntKind.i64.wrap ((j:Int)+1)=((j+1:Nat):Int):=by rw[IntKind.wrap_i64];omega
  have qc:L[j]?=some L[j]:=List.getElem?_eq_getElem qq;have qb:L'[j]?=some L[j]:=by rw[hL',List.getElem?_take_of_lt (by omega)];exact qc
  have q7:L[j].Ok:=hops.1 _ (List.getElem_mem qq);obtain⟨b,off,eao,qe⟩:=hops.2.2.2 (by intro q;rw[q] at qq;simp at qq);have qd:=qe j _ qc;have qw:=zty L' s0 j _ qb;have q3:ztz s0 L'≠[]:=by intro q;rw[q] at qw;simp at qw
  obtain⟨bb,ob,eau,qW⟩:=qa q3;obtain⟨a0,qI,u3,qU,a3⟩:=qW j _ qw;have qN:L.take (j+1)=L.take j++[L[j]]:=by rw[List.take_add_one,qc];rfl
  have qC:L'.take j=L.take j:=by rw[hL',List.take_take];congr 1;omega
  rw[qC] at a0 qI a3;have qk:zf0 s0 (L.take j)+ze2 (zo2 s0 (L.take j)) L[j]≤1048576:=by
   have h1:=zkz (L.take (j+1)) s0;rw[qN,zjx] at h1;have h2:(L.take j++[L[j]]).length≤1001:=by rw[List.length_append,List.length_take];simp;omega
   omega
  replace ih:=yay (ih (j+1) (by omega));rw[qN,zjx,zp3] at ih;clear qw qb qW qN qC qc;generalize L[j]=o at *;generalize zo2 s0 (L.take j)=s at *;generalize zf0 s0 (L.take j)=nst at *;obtain⟨n,hn⟩:∃n,L.length=n:=⟨_,rfl⟩;obtain⟨m,hm⟩:∃n,L'.length=n:=⟨_,rfl⟩;rw[hn] at hx qq hL ih;rw[hm] at hA qT qj;subst eau eao;have qh:(j:Int)<(n:Int):=by omega
  have qF:(j:Int)<1000:=by omega
  have wz:¬(m≤j):=by omega
  have h01:(0:Int)<1:=by decide
  clear qu hops qe qa q3;replace hn:=yay hn;replace hm:=yay hm;replace hL:=yay hL;replace qd:=yay qd;replace a0:=yay a0;replace qI:=yay qI;replace qU:=yay qU;replace qk:=yay qk;replace hj:=yay hj;replace qj:=yay qj;replace qq:=yay qq;have wx:=yay qT;replace qn:=yay qn;clear qT;have qB:=yay hN0;have qZ:=yay hA;clear hN0 hA;refine zas rm_xc rfl fun R0 qv=>?_;rw[show cA zqd=Code.seq _ _ from rfl]
  unfold A8;simp only[hx.x5,hx.x7,hx.x8,hx.x9,hx.x10,hx.x11];refine zaf rm_xc fun R1 qs=>?_;refine zbn zut (zac zag (by kernel_rfl)) rfl (zaa Try.func8) rfl fun wp hp=>?_;replace hp:=yay hp
  go_wp2_with fail
  refine fun w1 h1=>?_;replace I:=I.sim (h1.heap.trans hp.out.heap) ⟨h1.outs.1.trans hp.out.outs.1,h1.outs.2.trans hp.out.outs.2⟩;clear h1 hp wp;obtain rfl:=qs.out;clear qs;refine zau rm_xc (t:=true) rfl ?_;refine zbf rm_xc ?_;obtain rfl:=qv.out;clear qv;refine zas rm_xc rfl fun R0 qv=>?_;rw[show cA (cB zqd)=Code.block _ _ from rfl]
  refine zce rm_xc ?_;refine zas (c:=in8) rm_xc rfl fun R1 qs=>?_;rw[show cA in8=Code.seq _ _ from rfl]
  refine zaf rm_xc fun R2 wj=>?_;refine zbn zut (zac zag (by kernel_rfl)) rfl (zaa Try.func8) rfl fun wp hp=>?_;have q0:wp.cell? ⟨N,0,none⟩=some (.slice (some ⟨ba,oa,none⟩) 1 ca):=(zax (w:=w0) (fun b hb=>(congrArg (·[b]?) hp.heap).trans (I.ks.ns.l.same b hb)) qB.out);have q1:wp.cell? ⟨ba,oa,none⟩=some (.slice (some ⟨bb,ob,none⟩) m cu):=(zax (w:=w0) (fun b hb=>(congrArg (·[b]?) hp.heap).trans (I.ks.ns.l.same b hb)) qZ.out);replace hp:=yay hp
  go_wp2_with fail
  refine fun w1 h1=>?_;replace I:=I.sim (h1.heap.trans hp.out.heap) ⟨h1.outs.1.trans hp.out.outs.1,h1.outs.2.trans hp.out.outs.2⟩;clear h1 hp q0 q1 wp;obtain rfl:=wj.out;clear wj;refine zau rm_xc (t:=false) rfl ?_;refine zbf rm_xc ?_;obtain rfl:=qs.out;clear qs;rw[zh8 _ rfl];refine zas (c:=cB in8) rm_xc rfl fun R1 qs=>?_;refine z54 (jj:=j) (b:=b) (off:=off) (len:=n) (cap:=cap) (s:=s) (n:=nst) (ka:=ka) q7 (by have:=qk.out;omega) qq.out (by have:=hL.out;exact this) qd.out rfl rfl hka rfl I fun x1 oz1 ow1 w3 K1 a1 c1 q2 x12 I=>?_;obtain rfl:=qs.out;clear qs;refine zas (c:=cB (cB in8)) rm_xc rfl fun R1 qs=>?_;refine z53 (jj:=j) (b:=b) (off:=off) (len:=n) (cap:=cap) (s:=s) (n:=nst) (ka:=kb) q7 (by have:=qk.out;omega) qq.out (by have:=hL.out;exact this) qd.out ((q2 5 (by decide)).trans rfl) ((q2 9 (by decide)).trans rfl) (List.mem_cons_of_mem _ hkb) ((q2 10 (by decide)).trans rfl) ((q2 11 (by decide)).trans rfl) I fun x2 oz2 ow2 w4 K2 a2 c2 qH x13 I=>?_;obtain rfl:=qs.out;clear qs;have bk:=(I.ex K1 _ (List.mem_cons_of_mem _ (List.mem_cons_self ..))).at_;have bk':=(I.ex K2 _ (List.mem_cons_self ..)).at_;unfold z58 at bk bk';have rl:=zsl s o;have i1:IntsAt w4 (.slice a1 0 c1) (zbo s o).1.l:=by rw[rl];exact⟨_,_,rfl,fun h=>absurd rfl h⟩
  have i2:IntsAt w4 (.slice a2 0 c2) (zbo s o).1.l:=by rw[rl];exact⟨_,_,rfl,fun h=>absurd rfl h⟩
  refine z7c (r:=(zbo s o).1) (jj:=j) (ln:=m) (cap:=cu) (bb:=bb) (ob:=ob) (v3:=u3) ((qH 7 (by decide)).trans ((q2 7 (by decide)).trans rfl)) ((qH 11 (by decide)).trans ((q2 11 (by decide)).trans rfl)) ((qH 12 (by decide)).trans x12) x13 wx.out (zax I.ks.ns.l.same qB.out) (zax I.ks.ns.l.same qZ.out) (zax I.ks.ns.l.same a0.out) (zax I.ks.ns.l.same qI.out) (zax I.ks.ns.l.same qU.out) (a3.mono I.ks.ns.l.same) bk bk' i1 i2 (by rw[rl];decide) fun x3 w5 wn l5=>?_;replace I:=(I.left l5).sub (X:=X) fun p hp=>List.mem_cons_of_mem _ (List.mem_cons_of_mem _ hp);have hy:Y8 (.slice (some ⟨b,off,none⟩) n cap) N ka kb P.sb j x3:=by
   refine Y8.of (x:=x2) ?_ fun j hj=>wn j (by omega);refine Y8.of (x:=x1) ?_ fun j hj=>qH j (by omega);refine Y8.of ?_ fun j hj=>q2 j (by omega);exact⟨rfl,rfl,rfl,rfl,rfl,rfl⟩
  clear q2 qH wn l5 bk bk' i1 i2 x12 x13;refine za6 rm_xc ?_;obtain rfl:=qv.out;clear qv;rw[show cB (cB zqd)=Code.region _ _ _ from rfl]
  unfold A8;simp only[hy.x5,hy.x7,hy.x8,hy.x9,hy.x10,hy.x11];refine zbn zut (zac zag (by kernel_rfl)) rfl (zaa Try.func8) rfl fun wp hp=>?_;replace hp:=yay hp
  go_wp2_with fail
  refine fun w1 h1=>?_;replace I:=I.sim (h1.heap.trans hp.out.heap) ⟨h1.outs.1.trans hp.out.outs.1,h1.outs.2.trans hp.out.outs.2⟩;clear h1 hp wp;refine zdf rm_xc ?_;rw[zh8 _ rfl];exact ih.out _ _ _ _ ⟨rfl,rfl,rfl,rfl,rfl,rfl⟩ I
end
section
variable{Z:Machine→Trace→Prop}{cs:List Frame}{w0 W:World}{P:P8}{X:List (Nat×Obj)}{N ka kb bs os cst ol co n cap:Nat}{ao po:Option Addr}{va:Value}{st:Bool}{s:za7}{oz ow:Nat→Owner}{z:Nat→Value}{R:List Item}{jj:Nat}
theorem end8(hy:Y8 (.slice ao n cap) N ka kb P.sb jj z)(hn9:n≤9223372036854775807)(hka:(ka,thO P.wa P.fa P.ba)∈X)(hkb:(kb,thO P.wb P.fb P.bb)∈X)
  (hN:w0.heap[N]?=some (.cells #[va,.slice po ol co,.slice (some ⟨bs,os,none⟩) 3 cst,.bool st] 31 (0,0))) (hS:IntsAt w0 (.slice (some ⟨bs,os,none⟩) 3 cst) [s.W 0,bit (s.F 0),s.B 0]) (hol:n≤1000→∃cnt,cnt=ol∧ol≤4611686018427387904∧KE P X w0 cnt s s oz ow W) (lW:LeftW w0 W)
  (qu:∀fr w',LeftW w0 w'→fr.fn=8→fr.leaving Try.prog w' (.returned (.bool true))→RM Try.prog Z (G fr cs) w') :
  RM Try.prog Z (G ((base 8).at (A8 z) (.code (cB zk2)::R)) cs) W:=by
 have qi:=yay qu;clear qu;have l0:=lW;replace lW:=LeftW.refl (w:=W);refine zas (c:=cB zk2) rm_xc rfl fun R0 qv=>?_;rw[show cA (cB zk2)=Code.seq _ _ from rfl]
 refine zaf rm_xc fun R1 qs=>?_;unfold A8;simp only[hy.x5,hy.x7,hy.x8,hy.x9,hy.x10,hy.x11];refine zbn zyk (zac zag (by kernel_rfl)) rfl (zaa Try.func8) rfl fun wp hp=>?_;replace hp:=yay hp;replace hol:=yay hol;replace hS:=yay hS;replace hN:=yay hN;replace l0:=yay l0;by_cases qr:1000<n
 ·have qh:(1000:Int)<(n:Int):=by omega
  have qV:(n:Int)>1000:=by omega
  go_wp2_with fail
  refine fun w1 h1=>?_;have l1:LeftW W w1:=lW.trans ((LeftW.of_sim hp.out.heap hp.out.outs).sim h1);clear h1 hp wp lW;replace lW:=l1;clear l1;obtain rfl:=qs.out;clear qs;refine zau rm_xc (t:=true) rfl ?_;refine zaf rm_xc fun R1 qs=>?_;refine zbn zyk (zac zag (by kernel_rfl)) rfl (zaa Try.func8) rfl fun wp hp=>?_;replace hp:=yay hp
  go_wp2_with fail
  refine fun w1 h1=>?_;have l1:LeftW W w1:=lW.trans ((LeftW.of_sim hp.out.heap hp.out.outs).sim h1);clear h1 hp wp lW;replace lW:=l1;clear l1;obtain rfl:=qs.out;clear qs;refine zc0 rm_xc ?_;exact qi.out _ _ (l0.out.trans lW) rfl ⟨rfl,rfl,rfl,_,Try.func8,(results_tmp (fn:=Try.f8) (t:=4) rfl _ _ _).trans rfl⟩
 ·have qh:¬(1000:Int)<(n:Int):=by omega
  have qV:¬(n:Int)>1000:=by omega
  go_wp2_with fail
  refine fun w2 h1=>?_;have l1:LeftW W w2:=lW.trans ((LeftW.of_sim hp.out.heap hp.out.outs).sim h1);clear h1 hp wp lW;replace lW:=l1;clear l1;obtain rfl:=qs.out;clear qs;refine zau rm_xc (t:=false) rfl ?_;refine zbf rm_xc ?_;obtain rfl:=qv.out;clear qv;obtain⟨cnt,rfl,qQ,I0⟩:=hol.out (by omega);clear hol;have I:=I0.left lW;clear I0;have lW0:=l0.out.trans lW;clear lW l0;have gN:w2.heap[N]?=some (.cells #[va,.slice po cnt co,.slice (some ⟨bs,os,none⟩) 3 cst,.bool st] 31 (0,0)):=(lW0.same N (yah.1 hN.out).1).trans hN.out;obtain⟨s0,s1,s2⟩:w2.cell? ⟨bs,os,none⟩=some (.int .i64 (s.W 0))∧w2.cell? ⟨bs,os+1,none⟩=some (.int .i64 (bit (s.F 0)))∧w2.cell? ⟨bs,os+2,none⟩=some (.int .i64 (s.B 0)):=by
   obtain⟨a,c,e,q⟩:=(hS.out.mono lW0.same);obtain⟨b,o,e1,q1⟩:=q (by simp);simp only[Value.slice.injEq] at e;obtain⟨rfl,_,_⟩:=e;simp only[Option.some.injEq,Addr.mk.injEq] at e1;obtain⟨rfl,rfl,_⟩:=e1;exact⟨q1 0 _ rfl,q1 1 _ rfl,q1 2 _ rfl⟩
  have ga:=(I.ex ka _ hka).at_;have gb:=(I.ex kb _ hkb).at_;unfold thO at ga gb;have za:=I.ks.ns.z.rep;have zb:=I.ks.ns.wt.rep;have wA:=zab (za.wo 0 Nat.one_pos).at_ 0;have fA:=zab (za.fl 0 Nat.one_pos).at_ 0;obtain⟨pA,bA,kA⟩:=(za.bo 0 Nat.one_pos).cell;have wB:=zab (zb.wo 0 Nat.one_pos).at_ 0;have fB:=zab (zb.fl 0 Nat.one_pos).at_ 0;obtain⟨pB,bB,kB⟩:=(zb.bo 0 Nat.one_pos).cell;have kA':KeptI w2 pA (s.B 0):=kA.kept fun b _=>rfl;have kB':KeptI w2 pB (s.B 0):=kB.kept fun b _=>rfl;have q6:=zab I.ks.cnt 0;replace bA:=zab bA 0;replace bB:=zab bB 0;have a0:=zab ga 0;have a1:=zab ga 1;have a2:=zab ga 2;have b0:=zab gb 0;have b1:=zab gb 1;have b2:=zab gb 2;have n1:=zab gN 1;have n2:=zab gN 2;simp only[yac,yaa,yab,TL] at wA fA bA wB fB bB q6 a0 a1 a2 b0 b1 b2 n1 n2;clear ga gb za zb kA kB gN hS hN hka hkb;refine zas (c:=cB (cB zk2)) rm_xc rfl fun R0 qv=>?_;refine zas (c:=cA (cB (cB zk2))) rm_xc rfl fun R1 qs=>?_;rw[zh8 _ rfl];refine zur (sb:=P.sb) rfl rfl qQ q6 n1 n2 fun x w3 hx qD l3=>?_;obtain rfl:=qs.out;clear qs;rw[show cB (cA (cB (cB zk2)))=Code.cond _ _ _ from rfl]
  refine zau rm_xc (t:=false) (by show x 144=_;exact qD) ?_;refine zbf rm_xc ?_;obtain rfl:=qv.out;clear qv;have K:∀{a:Addr} {v:Value},w2.cell? a=some v→w3.cell? a=some v:=fun h=>zax l3.same h;replace s0:=K s0;replace s1:=K s1;replace s2:=K s2;replace wA:=K wA;replace fA:=K fA;replace bA:=K bA;replace wB:=K wB;replace fB:=K fB;replace bB:=K bB;replace a0:=K a0;replace a1:=K a1;replace a2:=K a2;replace b0:=K b0;replace b1:=K b1;replace b2:=K b2;replace n2:=K n2;replace kA':=kA'.left l3.same;replace kB':=kB'.left l3.same;have wC:=lW0.trans l3;clear K n1 q6 I l3 lW0;have y7:=(hx 7 (by decide) (by decide)).trans rfl;have y8:=(hx 8 (by decide) (by decide)).trans rfl;have y9:=(hx 9 (by decide) (by decide)).trans rfl;clear hx qD;refine zas (c:=zj7) rm_xc rfl fun R0 qv=>?_;rw[show cA zj7=Code.region _ _ _ from rfl]
  unfold A8;simp only[y7,y8,y9];have lW:=LeftW.refl (w:=w3);refine zbn zyk (zac zag (by kernel_rfl)) rfl (zaa Try.func8) rfl fun wp hp=>?_;replace hp:=yay hp
  go_wp2_with fail
  refine fun w1 h1=>?_;have l1:LeftW w3 w1:=lW.trans ((LeftW.of_sim hp.out.heap hp.out.outs).sim h1);clear h1 hp wp lW;replace lW:=l1;clear l1;obtain rfl:=qv.out;clear qv;refine zas (c:=cB zj7) rm_xc rfl fun R0 qv=>?_;rw[show cA (cB zj7)=Code.seq _ _ from rfl]
  refine zaf rm_xc fun R1 qs=>?_;refine zbn zyk (zac zag (by kernel_rfl)) rfl (zaa Try.func8) rfl fun wp hp=>?_;have hv:=zd6 P.fa (s.F 0) wp ((zax (w:=w3) (fun b hb=>(congrArg (·[b]?) hp.heap).trans (lW.same b hb)) fA));have q1:wp.cell? ⟨ka,1,none⟩=some (gpv P.fa):=zax (w:=w3) (fun b hb=>(congrArg (·[b]?) hp.heap).trans (lW.same b hb)) a1;unfold gpv at q1;replace hp:=yay hp;replace hv:=yay hv
  go_wp2_with (go_at_call 36;refine hv.out.mono ?_;rintro e w' ⟨rfl,rfl⟩)
  refine fun w1 h1=>?_;have l1:LeftW w3 w1:=lW.trans ((LeftW.of_sim hp.out.heap hp.out.outs).sim h1);clear h1 hp hv q1 wp lW;replace lW:=l1;clear l1;obtain rfl:=qs.out;clear qs;have fin:Hid (∀x w',x 7 = .pointer (some ⟨N,0,none⟩)→x 8 = .pointer (some ⟨ka,0,none⟩)→x 9 = .pointer (some ⟨kb,0,none⟩)→x 14 = .int .i64 (bit (s.F 0))→LeftW w3 w'→RM Try.prog Z (G ((base 8).at (A8 x) (.code (cB (cB zj7))::R)) cs) w'):=yay fun x w' e7 e8 e9 wy l=>by
   have K:∀{a:Addr} {v:Value},w3.cell? a=some v→w'.cell? a=some v:=fun h=>zax l.same h;refine zas (c:=cB (cB zj7)) rm_xc rfl fun R0 qv=>?_;refine zuq e7 e8 e9 wy (K n2) (K s0) (K s1) (K s2) (K a0) (K a1) (K a2) (K b0) (K b1) (K b2) (K wA) (K fA) (K bA) (kA'.left l.same) (K wB) (K fB) (K bB) (kB'.left l.same) fun y w4 y4 l4=>?_;obtain rfl:=qv.out;rw[show cB (cB (cB zj7))=Code.ret from rfl]
   refine zc0 rm_xc ?_;exact qi.out _ _ ((wC.trans l).trans l4) rfl ⟨rfl,rfl,rfl,_,Try.func8,(results_tmp (fn:=Try.f8) (t:=4) rfl _ _ _).trans (by show Result.ok (y 4) _=_;rw[y4])⟩
  clear s0 s1 s2 wA fA bA wB fB bB a0 a1 a2 b0 b1 b2 n2 kA' kB';cases hF:s.F 0 with
  | true =>
   refine zau rm_xc (t:=true) rfl ?_;refine zbn zyk (zac zag (by kernel_rfl)) rfl (zaa Try.func8) rfl fun wp hp=>?_;replace hp:=yay hp
   go_wp2_with fail
   refine fun w1 h1=>?_;have l1:LeftW w3 w1:=lW.trans ((LeftW.of_sim hp.out.heap hp.out.outs).sim h1);clear h1 hp wp lW;replace lW:=l1;clear l1;obtain rfl:=qv.out;rw[zh8 _ rfl];exact fin.out _ _ rfl rfl rfl (by rw[hF];rfl) lW
  | false =>
   refine zau rm_xc (t:=false) rfl ?_;refine zbf rm_xc ?_;obtain rfl:=qv.out;rw[zh8 _ rfl];exact fin.out _ _ rfl rfl rfl (by rw[hF];rfl) lW
end
structure z37(N:Nat)(o:Obj)(w w':World):Prop where
 at_:w'.heap[N]?=some o
 size:w'.heap.size=N+1
 l:LeftW w w'
theorem zm2(v:Int){w:World}{N:Nat}(hN:w.heap.size=N):Calls Try.prog 32 #[.int .i64 v] w fun e w'=>e = .returned (.pointer (some ⟨N,0,none⟩))∧z37 N (.cells #[.int .i64 v] 102 (0,0)) w w':=by
 subst hN;refine(zgs v w).mono ?_;rintro e w' ⟨rfl,rfl⟩;exact⟨rfl,heap_alloc_new _ _,by simp,LeftW.refl.alloc _⟩
theorem zm3{w:World}{N:Nat}(hN:w.heap.size=N):Calls Try.prog 33 #[.bool false] w fun e w'=>e = .returned (.pointer (some ⟨N,0,none⟩))∧z37 N (.cells #[.int .u32 (bit false)] 107 (0,0)) w w':=by
 subst hN;refine(zka false w).mono ?_;rintro e w' ⟨rfl,rfl⟩;have:=(LeftW.refl (w:=w)).alloc (.cells #[.int .u32 (bit false)] 107);exact⟨rfl,heap_alloc_new w _,show(w.alloc _).heap.size=_ by simp,⟨this.same,this.size,this.outs⟩⟩
theorem zqc(v:Int){w:World}{N:Nat}(hN:w.heap.size=N):Calls Try.prog 34 #[.int .i64 v] w fun e w'=>e = .returned (.pointer (some ⟨N,0,none⟩))∧w'.heap[N]?=some (.cells #[.pointer (some ⟨N+1,0,none⟩)] 113 (0,0))∧z37 (N+1) (.cells #[.int .i64 v,.int .i64 0] 184 (0,0)) w w':=by
 subst hN;refine(zlv v w).mono ?_;rintro e w' ⟨rfl,rfl⟩;have s1:(w.alloc (.cells #[.pointer (some ⟨w.heap.size+1,0,none⟩)] 113)).heap.size=w.heap.size+1:=by simp
 have h2:=heap_alloc_new (w.alloc (.cells #[.pointer (some ⟨w.heap.size+1,0,none⟩)] 113)) (.cells #[.int .i64 v,.int .i64 0] 184);rw[s1] at h2;exact⟨rfl,(Below.heap_alloc _ _ _ (by rw[s1];omega)).trans (heap_alloc_new w _),h2,by simp,(LeftW.refl.alloc _).alloc _⟩
structure Made(v:Int)(N:Nat)(w w':World):Prop where
 wo:w'.heap[N]?=some (.cells #[.int .i64 v] 102 (0,0))
 fl:w'.heap[N+1]?=some (.cells #[.int .u32 (bit false)] 107 (0,0))
 bo:w'.heap[N+2]?=some (.cells #[.pointer (some ⟨N+3,0,none⟩)] 113 (0,0))
 kp:w'.heap[N+3]?=some (.cells #[.int .i64 v,.int .i64 0] 184 (0,0))
 th:w'.heap[N+4]?=some (thO N (N+1) (N+2))
 l:LeftW w w'
theorem Made.left{v:Int}{N:Nat}{w w' w2:World}(h:Made v N w w')(l:LeftW w' w2):Made v N w w2:=by
 have k:∀{b:Nat} {o:Obj},w'.heap[b]?=some o→w2.heap[b]?=some o:=fun{b o} e=>(l.same b (yah.1 e).1).trans e;exact⟨k h.wo,k h.fl,k h.bo,k h.kp,k h.th,h.l.trans l⟩
section
variable{Z:Machine→Trace→Prop}{cs:List Frame}{w:World}{v:Int}{z:Nat→Value}{R:List Item}
theorem z65{N:Nat}(hN:w.heap.size=N)(z0:z 0 = .int .i64 v)(qu:∀y w',(∀j,j<12→j≠8→y j=z j)→y 8 = .pointer (some ⟨N+4,0,none⟩)→Made v N w w'→w'.heap.size=N+5→RM Try.prog Z (G ((base 8).at (A8 y) R) cs) w') :
  RM Try.prog Z (G ((base 8).at (A8 z) (.code (cA (cB (cB (cB (cB (cB c8))))))::R)) cs) w:=by
 have qi:=yay fun(y:Nat→Value) w' (h1:∀j,j<12→j≠8→y j=z j) (h2:y 8 = .pointer (some ⟨N+4,0,none⟩)) h3 h4=>qu y w' h1 h2 h3 h4;clear qu;rw[show cA (cB (cB (cB (cB (cB c8)))))=Code.region _ _ _ from rfl]
 unfold A8;simp only[z0];refine zbn zyk (zac zag (by kernel_rfl)) rfl (zaa Try.func8) rfl fun wp hp=>?_;have q5:wp.heap.size=N:=by rw[hp.heap];exact hN
 have hw:=zm2 v q5;have Lp:=yay (LeftW.of_sim hp.heap hp.outs);clear hp;replace q5:=yay q5;replace hw:=yay hw
 go_wp2_with (first
  | (go_at_call 32;refine hw.out.mono ?_;rintro e w6 ⟨rfl,hW⟩;have hf:=yay (zm3 hW.size);replace hW:=yay hW)
  | (go_at_call 33;refine hf.out.mono ?_;rintro e w7 ⟨rfl,hF⟩;have hb:=yay (zqc v hF.size);replace hF:=yay hF)
  | (go_at_call 34;refine hb.out.mono ?_;rintro e w8 ⟨rfl,qt,qf⟩;replace qt:=yay qt;replace qf:=yay qf))
 refine fun w9 h9=>?_;have s8:w8.heap.size=N+4:=qf.out.size;have L9:LeftW w8 w9:=(LeftW.refl.alloc _).sim h9;have e9:w9.heap[N+4]?=some (thO N (N+1) (N+2)):=by rw[h9.heap,←s8];exact heap_alloc_new _ _
 have z9:w9.heap.size=N+5:=by rw[h9.heap];simp;omega
 have k:∀{b:Nat} {o:Obj} {w1 w2:World},LeftW w1 w2→w1.heap[b]?=some o→w2.heap[b]?=some o:=fun l e=>(l.same _ (yah.1 e).1).trans e;have M:Made v N w w9:=⟨k (hF.out.l.trans (qf.out.l.trans L9)) hW.out.at_,k (qf.out.l.trans L9) hF.out.at_,k L9 qt.out,k L9 qf.out.at_,e9,Lp.out.trans (hW.out.l.trans (hF.out.l.trans (qf.out.l.trans L9)))⟩;rw[s8];clear h9 s8 L9 e9 hW hF qt qf hw hf hb;rw[zh8 _ rfl];refine qi.out _ w9 (fun j hj q3=>?_) rfl M z9;rcases j with _|_|_|_|_|_|_|_|_|_|_|_|j<;>first|rfl|exact absurd rfl q3|exact z0.symm|omega
theorem z45{N:Nat}(hN:w.heap.size=N)(z0:z 0 = .int .i64 v)(qu:∀y w',(∀j,j<12→j≠9→y j=z j)→y 9 = .pointer (some ⟨N+4,0,none⟩)→Made v N w w'→w'.heap.size=N+5→RM Try.prog Z (G ((base 8).at (A8 y) R) cs) w') :
  RM Try.prog Z (G ((base 8).at (A8 z) (.code (cA (cB (cB (cB (cB (cB (cB c8)))))))::R)) cs) w:=by
 have qi:=yay fun(y:Nat→Value) w' (h1:∀j,j<12→j≠9→y j=z j) (h2:y 9 = .pointer (some ⟨N+4,0,none⟩)) h3 h4=>qu y w' h1 h2 h3 h4;clear qu;rw[show cA (cB (cB (cB (cB (cB (cB c8))))))=Code.region _ _ _ from rfl]
 unfold A8;simp only[z0];refine zbn zyk (zac zag (by kernel_rfl)) rfl (zaa Try.func8) rfl fun wp hp=>?_;have q5:wp.heap.size=N:=by rw[hp.heap];exact hN
 have hw:=zm2 v q5;have Lp:=yay (LeftW.of_sim hp.heap hp.outs);clear hp;replace q5:=yay q5;replace hw:=yay hw
 go_wp2_with (first
  | (go_at_call 32;refine hw.out.mono ?_;rintro e w6 ⟨rfl,hW⟩;have hf:=yay (zm3 hW.size);replace hW:=yay hW)
  | (go_at_call 33;refine hf.out.mono ?_;rintro e w7 ⟨rfl,hF⟩;have hb:=yay (zqc v hF.size);replace hF:=yay hF)
  | (go_at_call 34;refine hb.out.mono ?_;rintro e w8 ⟨rfl,qt,qf⟩;replace qt:=yay qt;replace qf:=yay qf))
 refine fun w9 h9=>?_;have s8:w8.heap.size=N+4:=qf.out.size;have L9:LeftW w8 w9:=(LeftW.refl.alloc _).sim h9;have e9:w9.heap[N+4]?=some (thO N (N+1) (N+2)):=by rw[h9.heap,←s8];exact heap_alloc_new _ _
 have z9:w9.heap.size=N+5:=by rw[h9.heap];simp;omega
 have k:∀{b:Nat} {o:Obj} {w1 w2:World},LeftW w1 w2→w1.heap[b]?=some o→w2.heap[b]?=some o:=fun l e=>(l.same _ (yah.1 e).1).trans e;have M:Made v N w w9:=⟨k (hF.out.l.trans (qf.out.l.trans L9)) hW.out.at_,k (qf.out.l.trans L9) hF.out.at_,k L9 qt.out,k L9 qf.out.at_,e9,Lp.out.trans (hW.out.l.trans (hF.out.l.trans (qf.out.l.trans L9)))⟩;rw[s8];clear h9 s8 L9 e9 hW hF qt qf hw hf hb;rw[zh8 _ rfl];refine qi.out _ w9 (fun j hj q3=>?_) rfl M z9;rcases j with _|_|_|_|_|_|_|_|_|_|_|_|j<;>first|rfl|exact absurd rfl q3|exact z0.symm|omega
end
end Go.Proofs.Ytofacoojpgkbiaa
