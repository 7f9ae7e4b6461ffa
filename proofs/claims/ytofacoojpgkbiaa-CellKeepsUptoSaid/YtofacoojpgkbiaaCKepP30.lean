/-
  A part of a proof. No condition of its own.
-/
import Derived.Test.YtofacoojpgkbiaaCKepP27
import Derived.Test.YtofacoojpgkbiaaCKepP29
set_option linter.unusedVariables false
set_option maxHeartbeats 8000000
set_option linter.unusedSimpArgs false
namespace Go.Proofs.Ytofacoojpgkbiaa
open Go.Conc Go.RowKit
open Go.ConcN (upd upd_ne upd_same)
set_option maxRecDepth 100000
def tv57 (a0 gs gc ns nc cS cC capw caps n1 n2 n3 k1 k2 k3 m1 m2 m3 l1 l2 l3:Nat) (aw as_ b1 b2 b3 c1 c2 c3:Option Addr) (bt ct:Bool):Nat→Option Value
 | 0=>some (.agg #[.slice b1 n1 k1,.slice b2 n2 k2,.slice b3 n3 k3,.bool bt])
 | 1=>some (.agg #[.slice c1 m1 l1,.slice c2 m2 l2,.slice c3 m3 l3,.bool ct])
 | 2=>some (.bool true)
 | 3=>some (.bool true)
 | 4=>some (.slice (some ⟨gs,0,none⟩) (ns+1) cS)
 | 5=>some (.pointer (some ⟨a0,0,none⟩))
 | 6=>some (.slice aw ns capw)
 | 7=>some (.int .i64 ns)
 | 8=>some (.pointer (some ⟨gs,ns,none⟩))
 | 9=>some (.int .i64 77)
 | 10=>some (.bool true)
 | 11=>some (.bool true)
 | 12=>some (.bool true)
 | 13=>some (.slice (some ⟨gc,0,none⟩) (nc+1) cC)
 | 14=>some (.pointer (some ⟨a0,2,none⟩))
 | 15=>some (.slice as_ nc caps)
 | 16=>some (.int .i64 nc)
 | 17=>some (.pointer (some ⟨gc,nc,none⟩))
 | 18=>some (.int .i64 88)
 | 19=>some (.bool true)
 | 20=>some (.bool true)
 | 21=>some (.bool true)
 | 22=>some (.slice (some ⟨gs,0,none⟩) (ns+1) cS)
 | 23=>some (.pointer (some ⟨a0,0,none⟩))
 | 24=>some (.slice aw ns capw)
 | 25=>some (.int .i64 ns)
 | 26=>some (.slice (some ⟨gs,0,none⟩) ns cS)
 | 27=>some (.pointer (some ⟨a0,0,none⟩))
 | 28=>some (.slice aw ns capw)
 | 29=>some (.bool true)
 | 30=>some (.bool true)
 | 31=>some (.bool true)
 | 32=>some (.slice (some ⟨gc,0,none⟩) (nc+1) cC)
 | 33=>some (.pointer (some ⟨a0,2,none⟩))
 | 34=>some (.slice as_ nc caps)
 | 35=>some (.int .i64 nc)
 | 36=>some (.slice (some ⟨gc,0,none⟩) nc cC)
 | 37=>some (.pointer (some ⟨a0,2,none⟩))
 | 38=>some (.slice as_ nc caps)
 | 39=>some (.bool true)
 | 40=>some (.bool true)
 | _=>none
structure I57 (W:World) (z:Nat→Value) (tv:Nat→Option Value) (listed:Array Bool) (x:Nat→Value) (w:World):Prop where
 xs:∀ j,j < 24→j≠4→x j=z j
 tab:Tab tv 260 listed x
 low:LeftW W w
 d:listed.getD 41 false=true→x 4 = .bool true
section
variable {W w w':World} {tv:Nat→Option Value} {z x:Nat→Value} {listed:Array Bool}
theorem I57.put (h:I57 W z tv listed x w) {i:Nat} {u:Value} (hi:i < 41) (ht:tv i=some u):I57 W z tv (listed.setIfInBounds i true) (upd x (260+i) u) w :=
 ⟨fun j hj hne=>by rw [upd_ne _ _ (by omega)];exact h.xs j hj hne,h.tab.put (.inl ht),h.low,fun q=>by rw [upd_ne _ _ (by omega)];exact h.d (by rwa [zcg (by omega)] at q)⟩
theorem I57.grow (h:I57 W z tv listed x w) (l:LeftW w w'):I57 W z tv listed x w':=⟨h.xs,h.tab,h.low.trans l,h.d⟩
end
section
variable {Z:Machine→Trace→Prop} {c:Frame} {cs:List Frame} {w:World}
theorem zs3 {a b:Value} {l:List Int} (ha:IntsAt w a l) (hb:IntsAt w b l) (hl:l.length≤1000000000) (h:∀ w',LeftW w w'→RM Try.prog Z (G (c.finish (.bool true)) cs) w'):RM Try.prog Z (G (Frame.enter Try.prog 28 #[a,b] .normal) (c::cs)) w :=
 zgm prgSm (f:=28) (by decide) (R:=fun v w'=>v = .bool true∧LeftW w w') (fun v w' τ d hx=>⟨hx.1,zkb τ d hx.2⟩)
  (fun τ d=>(zmd (w:=re τ d w) (IntsAt.mono (w:=w) (w':=re τ d w) ha (fun _ _=>rfl)) (IntsAt.mono (w:=w) (w':=re τ d w) hb (fun _ _=>rfl)) hl).mono fun e w' ⟨he,hb⟩=>⟨_,he,rfl,zlc (zhh hb)⟩)
  fun v w' ⟨e,L⟩=>by subst e;exact h w' L
theorem zs1 {a b:Value} {T:Tr} (ha:TrIn w a T) (hb:TrIn w b T) (hs:TrSm T) (h:∀ w',LeftW w w'→RM Try.prog Z (G (c.finish (.bool true)) cs) w'):RM Try.prog Z (G (Frame.enter Try.prog 17 #[a,b] .normal) (c::cs)) w :=
 zgm prgSm (f:=17) (by decide) (R:=fun v w'=>v = .bool true∧LeftW w w') (fun v w' τ d hx=>⟨hx.1,zkb τ d hx.2⟩)
  (fun τ d=>(zs0 (w:=re τ d w) (ha.keep fun b _=>rfl) (hb.keep fun b _=>rfl) hs.ans hs.ord hs.st hs.each hs.list).mono fun e w' ⟨he,hb⟩=>⟨_,he,rfl,zlc (zhh hb)⟩)
  fun v w' ⟨e,L⟩=>by subst e;exact h w' L
end
section
variable {Z:Machine→Trace→Prop} {cs:List Frame} {W:World} {R:List Item}
theorem end57 {z:Nat→Value} {a0 gs gc ns nc cS cC capw caps Bb Cc n1 n2 n3 k1 k2 k3 m1 m2 m3 l1 l2 l3:Nat} {aw as_ b1 b2 b3 c1 c2 c3:Option Addr} {bt ct:Bool} {vt vm:Value} {ws sch:List Int} {T:Tr} (z2:z 2 = .pointer (some ⟨a0,0,none⟩)) (z5:z 5 = .slice (some ⟨gs,0,none⟩) (ns+1) cS) (z6:z 6 = .slice (some ⟨gc,0,none⟩) (nc+1) cC) (z10:z 10 = .pointer (some ⟨Bb,0,none⟩)) (z23:z 23 = .pointer (some ⟨Cc,0,none⟩))
  (hb:W.heap[a0]?=some (.cells #[.slice aw ns capw,vt,.slice as_ nc caps,vm] 71 (0,0))) (hB:W.heap[Bb]?=some (.cells #[.slice b1 n1 k1,.slice b2 n2 k2,.slice b3 n3 k3,.bool bt] 31 (0,0))) (hC:W.heap[Cc]?=some (.cells #[.slice c1 m1 l1,.slice c2 m2 l2,.slice c3 m3 l3,.bool ct] 31 (0,0)))
  (hTb:TrIn W (.agg #[.slice b1 n1 k1,.slice b2 n2 k2,.slice b3 n3 k3,.bool bt]) T) (hTc:TrIn W (.agg #[.slice c1 m1 l1,.slice c2 m2 l2,.slice c3 m3 l3,.bool ct]) T) (hsm:TrSm T) (n77:W.cell? ⟨gs,ns,none⟩=some (.int .i64 77)) (n88:W.cell? ⟨gc,nc,none⟩=some (.int .i64 88)) (hcS:ns+1≤cS) (hcC:nc+1≤cC) (hcS9:cS≤maxLen) (hcC9:cC≤maxLen)
  (iw:IntsAt W (.slice (some ⟨gs,0,none⟩) ns cS) ws) (iw2:IntsAt W (.slice aw ns capw) ws) (is:IntsAt W (.slice (some ⟨gc,0,none⟩) nc cC) sch) (is2:IntsAt W (.slice as_ nc caps) sch) (hws:ws.length≤1000000000) (hsch:sch.length≤1000000000)
  (hret:∀ y w',y 4 = .bool true→LeftW W w'→RM Try.prog Z (G ((base 11).at (A6 y) (.code .ret::R)) cs) w') :
  RM Try.prog Z (G ((base 11).at (A6 z) (.code Y18c::R)) cs) W:=by
 have hr':=yay hret;clear hret;unfold maxLen at hcS9 hcC9;have e1:(ns:Int)≤(cS:Int):=by omega
 have e2:(nc:Int)≤(cC:Int):=by omega
 have e3:(0:Int)≤(ns:Int):=by omega
 have e4:(0:Int)≤(nc:Int):=by omega
 have e5:¬ cS=0:=by omega
 have e6:¬ cC=0:=by omega
 have e7:(ns:Int) < ((ns+1:Nat):Int):=by omega
 have e8:(nc:Int) < ((nc+1:Nat):Int):=by omega
 have e9:(ns:Int) < (ns:Int)+1:=by omega
 have e10:(nc:Int) < (nc:Int)+1:=by omega
 have y0:=zac hb 0;have y2:=zac hb 2;have b0:=zac hB 0;have b1_:=zac hB 1;have b2_:=zac hB 2;have b3_:=zac hB 3;have d0:=zac hC 0;have d1_:=zac hC 1;have d2_:=zac hC 2;have d3_:=zac hC 3;simp only [yac,yaa,yab] at y0 y2 b0 b1_ b2_ b3_ d0 d1_ d2_ d3_;clear hb hB hC;refine zas (c:=Y18c) rm_xc rfl fun R0 hR0=>?_;rw [show cA Y18c=Code.region _ _ _ from rfl]
 refine zxm rfl (fun listed a w=>∃ x,a=A6 x∧I57 W z (tv57 a0 gs gc ns nc cS cC capw caps n1 n2 n3 k1 k2 k3 m1 m2 m3 l1 l2 l3 aw as_ b1 b2 b3 c1 c2 c3 bt ct) listed x w) ?i0 ?ie ?ist
 case i0=>exact ⟨z,rfl,fun _ _ _=>rfl,.zero,.refl,fun q=>(by rw [getD_replicate_false] at q;cases q)⟩
 case ie =>
  rintro listed a w hsz hrd ⟨x,rfl,hI⟩;have hall:=zmu (zy8 (by kernel_rfl)) hsz hrd;have h4:=hI.d (hall 41 (by decide));refine zad rm_xc ?_;obtain rfl:=hR0.out;exact hr'.out x w h4 hI.low
 case ist =>
  rintro listed i hsz hir a w3 rr ⟨x,rfl,hI⟩ hnext;obtain ⟨hun,op,hop,hdep⟩:=mem_ready.1 hir;have hi42:i < 42:=by
   have:=(yah.1 hop).1
   simpa using this
  have x2:=(hI.xs 2 (by decide) (by decide)).trans z2;have x5:=(hI.xs 5 (by decide) (by decide)).trans z5;have x6:=(hI.xs 6 (by decide) (by decide)).trans z6;have x10:=(hI.xs 10 (by decide) (by decide)).trans z10;have x23:=(hI.xs 23 (by decide) (by decide)).trans z23;have cc:Hid (∀ (a:Addr) v,W.cell? a=some v→∀ wp:World,Sim wp w3→wp.cell? a=some v):=yay fun a v q wp hp=>by
   refine (World.cell?_of_block (w:=W) ?_).trans q;show wp.heap[a.block]?=W.heap[a.block]?;rw [hp.heap];exact hI.low.same _ (World.block_lt_of_cell? W _ q)
  replace y0:=yay y0;replace y2:=yay y2;replace b0:=yay b0;replace b1_:=yay b1_;replace b2_:=yay b2_;replace b3_:=yay b3_;replace d0:=yay d0;replace d1_:=yay d1_;replace d2_:=yay d2_;replace d3_:=yay d3_;replace n77:=yay n77;replace n88:=yay n88;have hcase:i=0∨i=1∨i=2∨i=3∨i=4∨i=5∨i=6∨i=7∨i=8∨i=9∨i=10∨i=11∨i=12∨i=13∨i=14∨i=15∨i=16∨i=17∨i=18∨i=19∨i=20∨i=21∨i=22∨i=23∨i=24∨i=25∨i=26∨i=27∨i=28∨i=29∨i=30∨i=31∨i=32∨i=33∨i=34∨i=35∨i=36∨i=37∨i=38∨i=39∨i=40∨i=41:=by omega
  rcases hcase with rfl|rfl|rfl|rfl|rfl|rfl|rfl|rfl|rfl|rfl|rfl|rfl|rfl|rfl|rfl|rfl|rfl|rfl|rfl|rfl|rfl|rfl|rfl|rfl|rfl|rfl|rfl|rfl|rfl|rfl|rfl|rfl|rfl|rfl|rfl|rfl|rfl|rfl|rfl|rfl|rfl|rfl
  ·refine zbf rfl rfl (by decide) (zah (l:=[_]) (by kernel_rfl) _ (yaj.2 rfl)) (v := .agg #[.slice b1 n1 k1,.slice b2 n2 k2,.slice b3 n3 k3,.bool bt]) (fun wp hp=>by
    have qb0:=cc.out _ _ b0.out wp hp;have qb1_:=cc.out _ _ b1_.out wp hp;have qb2_:=cc.out _ _ b2_.out wp hp;have qb3_:=cc.out _ _ b3_.out wp hp;unfold A6
    go_simp<;>rfl) ?_
   exact hnext (A6 (upd x 260 (.agg #[.slice b1 n1 k1,.slice b2 n2 k2,.slice b3 n3 k3,.bool bt]))) w3 ⟨_,rfl,hI.put (by decide) rfl⟩
  ·refine zbf rfl rfl (by decide) (zah (l:=[_]) (by kernel_rfl) _ (yaj.2 rfl)) (v := .agg #[.slice c1 m1 l1,.slice c2 m2 l2,.slice c3 m3 l3,.bool ct]) (fun wp hp=>by
    have qd0:=cc.out _ _ d0.out wp hp;have qd1_:=cc.out _ _ d1_.out wp hp;have qd2_:=cc.out _ _ d2_.out wp hp;have qd3_:=cc.out _ _ d3_.out wp hp;unfold A6
    go_simp<;>rfl) ?_
   exact hnext (A6 (upd x 261 (.agg #[.slice c1 m1 l1,.slice c2 m2 l2,.slice c3 m3 l3,.bool ct]))) w3 ⟨_,rfl,hI.put (by decide) rfl⟩
  ·have hop':=yaw hop;subst hop';have t0:=hI.tab.at (s:=260) (hdep ⟨0,.data⟩ (by simp) rfl) rfl rfl;have t1:=hI.tab.at (s:=261) (hdep ⟨1,.data⟩ (by simp) rfl) rfl rfl;refine zat rm_xc rfl rfl (by decide) rfl Try.func17 (by kernel_rfl) (by kernel_rfl) ?_;walk_nrm;show RM _ _ (G (Frame.enter Try.prog 17 #[x 260,x 261] .normal) _) w3;rw [t0,t1];refine zs1 (hTb.keep hI.low.same) (hTc.keep hI.low.same) hsm fun w4 L4=>?_;rw [Frame.finish_at];exact hnext (A6 (upd x 262 (.bool true))) w4 ⟨_,rfl,(hI.grow L4).put (by decide) rfl⟩
  ·have hop':=yaw hop;subst hop';have t2:=hI.tab.at (s:=262) (hdep ⟨2,.data⟩ (by simp) rfl) rfl rfl;refine zbf rfl rfl (by decide) (zah (l:=[_]) (by kernel_rfl) _ (yaj.2 rfl)) (v := .bool true) (fun wp hp=>by
    unfold A6
    go_simp<;>rfl) ?_
   exact hnext (A6 (upd x 263 (.bool true))) w3 ⟨_,rfl,hI.put (by decide) rfl⟩
  ·have hop':=yaw hop;subst hop';have tg:=hI.tab.at (s:=263) (hdep ⟨3,.guard⟩ (by simp) rfl) rfl rfl;refine zbf rfl (za4 (g:=3) (sl:=263) (b:=true) rfl rfl (congrArg some tg)) (by decide) (zah (l:=[_]) (by kernel_rfl) _ (yaj.2 rfl)) (v := .slice (some ⟨gs,0,none⟩) (ns+1) cS) (fun wp hp=>by
    unfold A6
    go_simp<;>rfl) ?_
   exact hnext (A6 (upd x 264 (.slice (some ⟨gs,0,none⟩) (ns+1) cS))) w3 ⟨_,rfl,hI.put (by decide) rfl⟩
  ·have hop':=yaw hop;subst hop';have tg:=hI.tab.at (s:=263) (hdep ⟨3,.guard⟩ (by simp) rfl) rfl rfl;refine zbf rfl (za4 (g:=3) (sl:=263) (b:=true) rfl rfl (congrArg some tg)) (by decide) (zah (l:=[_]) (by kernel_rfl) _ (yaj.2 rfl)) (v := .pointer (some ⟨a0,0,none⟩)) (fun wp hp=>by
    unfold A6
    go_simp<;>rfl) ?_
   exact hnext (A6 (upd x 265 (.pointer (some ⟨a0,0,none⟩)))) w3 ⟨_,rfl,hI.put (by decide) rfl⟩
  ·have hop':=yaw hop;subst hop';have t5:=hI.tab.at (s:=265) (hdep ⟨5,.data⟩ (by simp) rfl) rfl rfl;have tg:=hI.tab.at (s:=263) (hdep ⟨3,.guard⟩ (by simp) rfl) rfl rfl;refine zbf rfl (za4 (g:=3) (sl:=263) (b:=true) rfl rfl (congrArg some tg)) (by decide) (zah (l:=[_]) (by kernel_rfl) _ (yaj.2 rfl)) (v := .slice aw ns capw) (fun wp hp=>by
    have qy0:=cc.out _ _ y0.out wp hp;unfold A6
    go_simp<;>rfl) ?_
   exact hnext (A6 (upd x 266 (.slice aw ns capw))) w3 ⟨_,rfl,hI.put (by decide) rfl⟩
  ·have hop':=yaw hop;subst hop';have t6:=hI.tab.at (s:=266) (hdep ⟨6,.data⟩ (by simp) rfl) rfl rfl;have tg:=hI.tab.at (s:=263) (hdep ⟨3,.guard⟩ (by simp) rfl) rfl rfl;refine zbf rfl (za4 (g:=3) (sl:=263) (b:=true) rfl rfl (congrArg some tg)) (by decide) (zah (l:=[_]) (by kernel_rfl) _ (yaj.2 rfl)) (v := .int .i64 ns) (fun wp hp=>by
    unfold A6
    go_simp<;>rfl) ?_
   exact hnext (A6 (upd x 267 (.int .i64 ns))) w3 ⟨_,rfl,hI.put (by decide) rfl⟩
  ·have hop':=yaw hop;subst hop';have t4:=hI.tab.at (s:=264) (hdep ⟨4,.data⟩ (by simp) rfl) rfl rfl;have t7:=hI.tab.at (s:=267) (hdep ⟨7,.data⟩ (by simp) rfl) rfl rfl;have tg:=hI.tab.at (s:=263) (hdep ⟨3,.guard⟩ (by simp) rfl) rfl rfl;refine zbf rfl (za4 (g:=3) (sl:=263) (b:=true) rfl rfl (congrArg some tg)) (by decide) (zah (l:=[_]) (by kernel_rfl) _ (yaj.2 rfl)) (v := .pointer (some ⟨gs,ns,none⟩)) (fun wp hp=>by
    unfold A6
    go_simp<;>rfl) ?_
   exact hnext (A6 (upd x 268 (.pointer (some ⟨gs,ns,none⟩)))) w3 ⟨_,rfl,hI.put (by decide) rfl⟩
  ·have hop':=yaw hop;subst hop';have t8:=hI.tab.at (s:=268) (hdep ⟨8,.data⟩ (by simp) rfl) rfl rfl;have tg:=hI.tab.at (s:=263) (hdep ⟨3,.guard⟩ (by simp) rfl) rfl rfl;refine zbf rfl (za4 (g:=3) (sl:=263) (b:=true) rfl rfl (congrArg some tg)) (by decide) (zah (l:=[_]) (by kernel_rfl) _ (yaj.2 rfl)) (v := .int .i64 77) (fun wp hp=>by
    have qn77:=cc.out _ _ n77.out wp hp;unfold A6
    go_simp<;>rfl) ?_
   exact hnext (A6 (upd x 269 (.int .i64 77))) w3 ⟨_,rfl,hI.put (by decide) rfl⟩
  ·have hop':=yaw hop;subst hop';have t9:=hI.tab.at (s:=269) (hdep ⟨9,.data⟩ (by simp) rfl) rfl rfl;have tg:=hI.tab.at (s:=263) (hdep ⟨3,.guard⟩ (by simp) rfl) rfl rfl;refine zbf rfl (za4 (g:=3) (sl:=263) (b:=true) rfl rfl (congrArg some tg)) (by decide) (zah (l:=[_]) (by kernel_rfl) _ (yaj.2 rfl)) (v := .bool true) (fun wp hp=>by
    unfold A6
    go_simp<;>rfl) ?_
   exact hnext (A6 (upd x 270 (.bool true))) w3 ⟨_,rfl,hI.put (by decide) rfl⟩
  ·have hop':=yaw hop;subst hop';have t3:=hI.tab.at (s:=263) (hdep ⟨3,.data⟩ (by simp) rfl) rfl rfl;have t10:=hI.tab.at (s:=270) (hdep ⟨10,.data⟩ (by simp) rfl) rfl rfl;refine zbf rfl rfl (by decide) (zah (l:=[_]) (by kernel_rfl) _ (yaj.2 rfl)) (v := .bool true) (fun wp hp=>by
    unfold A6
    go_simp<;>rfl) ?_
   exact hnext (A6 (upd x 271 (.bool true))) w3 ⟨_,rfl,hI.put (by decide) rfl⟩
  ·have hop':=yaw hop;subst hop';have t11:=hI.tab.at (s:=271) (hdep ⟨11,.data⟩ (by simp) rfl) rfl rfl;refine zbf rfl rfl (by decide) (zah (l:=[_]) (by kernel_rfl) _ (yaj.2 rfl)) (v := .bool true) (fun wp hp=>by
    unfold A6
    go_simp<;>rfl) ?_
   exact hnext (A6 (upd x 272 (.bool true))) w3 ⟨_,rfl,hI.put (by decide) rfl⟩
  ·have hop':=yaw hop;subst hop';have tg:=hI.tab.at (s:=272) (hdep ⟨12,.guard⟩ (by simp) rfl) rfl rfl;refine zbf rfl (za4 (g:=12) (sl:=272) (b:=true) rfl rfl (congrArg some tg)) (by decide) (zah (l:=[_]) (by kernel_rfl) _ (yaj.2 rfl)) (v := .slice (some ⟨gc,0,none⟩) (nc+1) cC) (fun wp hp=>by
    unfold A6
    go_simp<;>rfl) ?_
   exact hnext (A6 (upd x 273 (.slice (some ⟨gc,0,none⟩) (nc+1) cC))) w3 ⟨_,rfl,hI.put (by decide) rfl⟩
  ·have hop':=yaw hop;subst hop';have tg:=hI.tab.at (s:=272) (hdep ⟨12,.guard⟩ (by simp) rfl) rfl rfl;refine zbf rfl (za4 (g:=12) (sl:=272) (b:=true) rfl rfl (congrArg some tg)) (by decide) (zah (l:=[_]) (by kernel_rfl) _ (yaj.2 rfl)) (v := .pointer (some ⟨a0,2,none⟩)) (fun wp hp=>by
    unfold A6
    go_simp<;>rfl) ?_
   exact hnext (A6 (upd x 274 (.pointer (some ⟨a0,2,none⟩)))) w3 ⟨_,rfl,hI.put (by decide) rfl⟩
  ·have hop':=yaw hop;subst hop';have t14:=hI.tab.at (s:=274) (hdep ⟨14,.data⟩ (by simp) rfl) rfl rfl;have tg:=hI.tab.at (s:=272) (hdep ⟨12,.guard⟩ (by simp) rfl) rfl rfl;refine zbf rfl (za4 (g:=12) (sl:=272) (b:=true) rfl rfl (congrArg some tg)) (by decide) (zah (l:=[_]) (by kernel_rfl) _ (yaj.2 rfl)) (v := .slice as_ nc caps) (fun wp hp=>by
    have qy2:=cc.out _ _ y2.out wp hp;unfold A6
    go_simp<;>rfl) ?_
   exact hnext (A6 (upd x 275 (.slice as_ nc caps))) w3 ⟨_,rfl,hI.put (by decide) rfl⟩
  ·have hop':=yaw hop;subst hop';have t15:=hI.tab.at (s:=275) (hdep ⟨15,.data⟩ (by simp) rfl) rfl rfl;have tg:=hI.tab.at (s:=272) (hdep ⟨12,.guard⟩ (by simp) rfl) rfl rfl;refine zbf rfl (za4 (g:=12) (sl:=272) (b:=true) rfl rfl (congrArg some tg)) (by decide) (zah (l:=[_]) (by kernel_rfl) _ (yaj.2 rfl)) (v := .int .i64 nc) (fun wp hp=>by
    unfold A6
    go_simp<;>rfl) ?_
   exact hnext (A6 (upd x 276 (.int .i64 nc))) w3 ⟨_,rfl,hI.put (by decide) rfl⟩
  ·have hop':=yaw hop;subst hop';have t13:=hI.tab.at (s:=273) (hdep ⟨13,.data⟩ (by simp) rfl) rfl rfl;have t16:=hI.tab.at (s:=276) (hdep ⟨16,.data⟩ (by simp) rfl) rfl rfl;have tg:=hI.tab.at (s:=272) (hdep ⟨12,.guard⟩ (by simp) rfl) rfl rfl;refine zbf rfl (za4 (g:=12) (sl:=272) (b:=true) rfl rfl (congrArg some tg)) (by decide) (zah (l:=[_]) (by kernel_rfl) _ (yaj.2 rfl)) (v := .pointer (some ⟨gc,nc,none⟩)) (fun wp hp=>by
    unfold A6
    go_simp<;>rfl) ?_
   exact hnext (A6 (upd x 277 (.pointer (some ⟨gc,nc,none⟩)))) w3 ⟨_,rfl,hI.put (by decide) rfl⟩
  ·have hop':=yaw hop;subst hop';have t17:=hI.tab.at (s:=277) (hdep ⟨17,.data⟩ (by simp) rfl) rfl rfl;have tg:=hI.tab.at (s:=272) (hdep ⟨12,.guard⟩ (by simp) rfl) rfl rfl;refine zbf rfl (za4 (g:=12) (sl:=272) (b:=true) rfl rfl (congrArg some tg)) (by decide) (zah (l:=[_]) (by kernel_rfl) _ (yaj.2 rfl)) (v := .int .i64 88) (fun wp hp=>by
    have qn88:=cc.out _ _ n88.out wp hp;unfold A6
    go_simp<;>rfl) ?_
   exact hnext (A6 (upd x 278 (.int .i64 88))) w3 ⟨_,rfl,hI.put (by decide) rfl⟩
  ·have hop':=yaw hop;subst hop';have t18:=hI.tab.at (s:=278) (hdep ⟨18,.data⟩ (by simp) rfl) rfl rfl;have tg:=hI.tab.at (s:=272) (hdep ⟨12,.guard⟩ (by simp) rfl) rfl rfl;refine zbf rfl (za4 (g:=12) (sl:=272) (b:=true) rfl rfl (congrArg some tg)) (by decide) (zah (l:=[_]) (by kernel_rfl) _ (yaj.2 rfl)) (v := .bool true) (fun wp hp=>by
    unfold A6
    go_simp<;>rfl) ?_
   exact hnext (A6 (upd x 279 (.bool true))) w3 ⟨_,rfl,hI.put (by decide) rfl⟩
  ·have hop':=yaw hop;subst hop';have t12:=hI.tab.at (s:=272) (hdep ⟨12,.data⟩ (by simp) rfl) rfl rfl;have t19:=hI.tab.at (s:=279) (hdep ⟨19,.data⟩ (by simp) rfl) rfl rfl;refine zbf rfl rfl (by decide) (zah (l:=[_]) (by kernel_rfl) _ (yaj.2 rfl)) (v := .bool true) (fun wp hp=>by
    unfold A6
    go_simp<;>rfl) ?_
   exact hnext (A6 (upd x 280 (.bool true))) w3 ⟨_,rfl,hI.put (by decide) rfl⟩
  ·have hop':=yaw hop;subst hop';have t20:=hI.tab.at (s:=280) (hdep ⟨20,.data⟩ (by simp) rfl) rfl rfl;refine zbf rfl rfl (by decide) (zah (l:=[_]) (by kernel_rfl) _ (yaj.2 rfl)) (v := .bool true) (fun wp hp=>by
    unfold A6
    go_simp<;>rfl) ?_
   exact hnext (A6 (upd x 281 (.bool true))) w3 ⟨_,rfl,hI.put (by decide) rfl⟩
  ·have hop':=yaw hop;subst hop';have tg:=hI.tab.at (s:=281) (hdep ⟨21,.guard⟩ (by simp) rfl) rfl rfl;refine zbf rfl (za4 (g:=21) (sl:=281) (b:=true) rfl rfl (congrArg some tg)) (by decide) (zah (l:=[_]) (by kernel_rfl) _ (yaj.2 rfl)) (v := .slice (some ⟨gs,0,none⟩) (ns+1) cS) (fun wp hp=>by
    unfold A6
    go_simp<;>rfl) ?_
   exact hnext (A6 (upd x 282 (.slice (some ⟨gs,0,none⟩) (ns+1) cS))) w3 ⟨_,rfl,hI.put (by decide) rfl⟩
  ·have hop':=yaw hop;subst hop';have tg:=hI.tab.at (s:=281) (hdep ⟨21,.guard⟩ (by simp) rfl) rfl rfl;refine zbf rfl (za4 (g:=21) (sl:=281) (b:=true) rfl rfl (congrArg some tg)) (by decide) (zah (l:=[_]) (by kernel_rfl) _ (yaj.2 rfl)) (v := .pointer (some ⟨a0,0,none⟩)) (fun wp hp=>by
    unfold A6
    go_simp<;>rfl) ?_
   exact hnext (A6 (upd x 283 (.pointer (some ⟨a0,0,none⟩)))) w3 ⟨_,rfl,hI.put (by decide) rfl⟩
  ·have hop':=yaw hop;subst hop';have t23:=hI.tab.at (s:=283) (hdep ⟨23,.data⟩ (by simp) rfl) rfl rfl;have tg:=hI.tab.at (s:=281) (hdep ⟨21,.guard⟩ (by simp) rfl) rfl rfl;refine zbf rfl (za4 (g:=21) (sl:=281) (b:=true) rfl rfl (congrArg some tg)) (by decide) (zah (l:=[_]) (by kernel_rfl) _ (yaj.2 rfl)) (v := .slice aw ns capw) (fun wp hp=>by
    have qy0:=cc.out _ _ y0.out wp hp;unfold A6
    go_simp<;>rfl) ?_
   exact hnext (A6 (upd x 284 (.slice aw ns capw))) w3 ⟨_,rfl,hI.put (by decide) rfl⟩
  ·have hop':=yaw hop;subst hop';have t24:=hI.tab.at (s:=284) (hdep ⟨24,.data⟩ (by simp) rfl) rfl rfl;have tg:=hI.tab.at (s:=281) (hdep ⟨21,.guard⟩ (by simp) rfl) rfl rfl;refine zbf rfl (za4 (g:=21) (sl:=281) (b:=true) rfl rfl (congrArg some tg)) (by decide) (zah (l:=[_]) (by kernel_rfl) _ (yaj.2 rfl)) (v := .int .i64 ns) (fun wp hp=>by
    unfold A6
    go_simp<;>rfl) ?_
   exact hnext (A6 (upd x 285 (.int .i64 ns))) w3 ⟨_,rfl,hI.put (by decide) rfl⟩
  ·have hop':=yaw hop;subst hop';have t22:=hI.tab.at (s:=282) (hdep ⟨22,.data⟩ (by simp) rfl) rfl rfl;have t25:=hI.tab.at (s:=285) (hdep ⟨25,.data⟩ (by simp) rfl) rfl rfl;have tg:=hI.tab.at (s:=281) (hdep ⟨21,.guard⟩ (by simp) rfl) rfl rfl;refine zbf rfl (za4 (g:=21) (sl:=281) (b:=true) rfl rfl (congrArg some tg)) (by decide) (zah (l:=[_]) (by kernel_rfl) _ (yaj.2 rfl)) (v := .slice (some ⟨gs,0,none⟩) ns cS) (fun wp hp=>by
    unfold A6
    go_simp<;>rfl) ?_
   exact hnext (A6 (upd x 286 (.slice (some ⟨gs,0,none⟩) ns cS))) w3 ⟨_,rfl,hI.put (by decide) rfl⟩
  ·have hop':=yaw hop;subst hop';have tg:=hI.tab.at (s:=281) (hdep ⟨21,.guard⟩ (by simp) rfl) rfl rfl;refine zbf rfl (za4 (g:=21) (sl:=281) (b:=true) rfl rfl (congrArg some tg)) (by decide) (zah (l:=[_]) (by kernel_rfl) _ (yaj.2 rfl)) (v := .pointer (some ⟨a0,0,none⟩)) (fun wp hp=>by
    unfold A6
    go_simp<;>rfl) ?_
   exact hnext (A6 (upd x 287 (.pointer (some ⟨a0,0,none⟩)))) w3 ⟨_,rfl,hI.put (by decide) rfl⟩
  ·have hop':=yaw hop;subst hop';have t27:=hI.tab.at (s:=287) (hdep ⟨27,.data⟩ (by simp) rfl) rfl rfl;have tg:=hI.tab.at (s:=281) (hdep ⟨21,.guard⟩ (by simp) rfl) rfl rfl;refine zbf rfl (za4 (g:=21) (sl:=281) (b:=true) rfl rfl (congrArg some tg)) (by decide) (zah (l:=[_]) (by kernel_rfl) _ (yaj.2 rfl)) (v := .slice aw ns capw) (fun wp hp=>by
    have qy0:=cc.out _ _ y0.out wp hp;unfold A6
    go_simp<;>rfl) ?_
   exact hnext (A6 (upd x 288 (.slice aw ns capw))) w3 ⟨_,rfl,hI.put (by decide) rfl⟩
  ·have hop':=yaw hop;subst hop';have t26:=hI.tab.at (s:=286) (hdep ⟨26,.data⟩ (by simp) rfl) rfl rfl;have t28:=hI.tab.at (s:=288) (hdep ⟨28,.data⟩ (by simp) rfl) rfl rfl;have tg:=hI.tab.at (s:=281) (hdep ⟨21,.guard⟩ (by simp) rfl) rfl rfl;refine zat rm_xc rfl (za4 (g:=21) (sl:=281) (b:=true) rfl rfl (congrArg some tg)) (by decide) rfl Try.func23 (by kernel_rfl) (by kernel_rfl) ?_;walk_nrm;show RM _ _ (G (Frame.enter Try.prog 23 #[x 286,x 288] .normal) _) w3;rw [t26,t28];refine zs2 (iw.mono hI.low.same) (iw2.mono hI.low.same) hws fun w4 L4=>?_;rw [Frame.finish_at];exact hnext (A6 (upd x 289 (.bool true))) w4 ⟨_,rfl,(hI.grow L4).put (by decide) rfl⟩
  ·have hop':=yaw hop;subst hop';have t21:=hI.tab.at (s:=281) (hdep ⟨21,.data⟩ (by simp) rfl) rfl rfl;have t29:=hI.tab.at (s:=289) (hdep ⟨29,.data⟩ (by simp) rfl) rfl rfl;refine zbf rfl rfl (by decide) (zah (l:=[_]) (by kernel_rfl) _ (yaj.2 rfl)) (v := .bool true) (fun wp hp=>by
    unfold A6
    go_simp<;>rfl) ?_
   exact hnext (A6 (upd x 290 (.bool true))) w3 ⟨_,rfl,hI.put (by decide) rfl⟩
  ·have hop':=yaw hop;subst hop';have t30:=hI.tab.at (s:=290) (hdep ⟨30,.data⟩ (by simp) rfl) rfl rfl;refine zbf rfl rfl (by decide) (zah (l:=[_]) (by kernel_rfl) _ (yaj.2 rfl)) (v := .bool true) (fun wp hp=>by
    unfold A6
    go_simp<;>rfl) ?_
   exact hnext (A6 (upd x 291 (.bool true))) w3 ⟨_,rfl,hI.put (by decide) rfl⟩
  ·have hop':=yaw hop;subst hop';have tg:=hI.tab.at (s:=291) (hdep ⟨31,.guard⟩ (by simp) rfl) rfl rfl;refine zbf rfl (za4 (g:=31) (sl:=291) (b:=true) rfl rfl (congrArg some tg)) (by decide) (zah (l:=[_]) (by kernel_rfl) _ (yaj.2 rfl)) (v := .slice (some ⟨gc,0,none⟩) (nc+1) cC) (fun wp hp=>by
    unfold A6
    go_simp<;>rfl) ?_
   exact hnext (A6 (upd x 292 (.slice (some ⟨gc,0,none⟩) (nc+1) cC))) w3 ⟨_,rfl,hI.put (by decide) rfl⟩
  ·have hop':=yaw hop;subst hop';have tg:=hI.tab.at (s:=291) (hdep ⟨31,.guard⟩ (by simp) rfl) rfl rfl;refine zbf rfl (za4 (g:=31) (sl:=291) (b:=true) rfl rfl (congrArg some tg)) (by decide) (zah (l:=[_]) (by kernel_rfl) _ (yaj.2 rfl)) (v := .pointer (some ⟨a0,2,none⟩)) (fun wp hp=>by
    unfold A6
    go_simp<;>rfl) ?_
   exact hnext (A6 (upd x 293 (.pointer (some ⟨a0,2,none⟩)))) w3 ⟨_,rfl,hI.put (by decide) rfl⟩
  ·have hop':=yaw hop;subst hop';have t33:=hI.tab.at (s:=293) (hdep ⟨33,.data⟩ (by simp) rfl) rfl rfl;have tg:=hI.tab.at (s:=291) (hdep ⟨31,.guard⟩ (by simp) rfl) rfl rfl;refine zbf rfl (za4 (g:=31) (sl:=291) (b:=true) rfl rfl (congrArg some tg)) (by decide) (zah (l:=[_]) (by kernel_rfl) _ (yaj.2 rfl)) (v := .slice as_ nc caps) (fun wp hp=>by
    have qy2:=cc.out _ _ y2.out wp hp;unfold A6
    go_simp<;>rfl) ?_
   exact hnext (A6 (upd x 294 (.slice as_ nc caps))) w3 ⟨_,rfl,hI.put (by decide) rfl⟩
  ·have hop':=yaw hop;subst hop';have t34:=hI.tab.at (s:=294) (hdep ⟨34,.data⟩ (by simp) rfl) rfl rfl;have tg:=hI.tab.at (s:=291) (hdep ⟨31,.guard⟩ (by simp) rfl) rfl rfl;refine zbf rfl (za4 (g:=31) (sl:=291) (b:=true) rfl rfl (congrArg some tg)) (by decide) (zah (l:=[_]) (by kernel_rfl) _ (yaj.2 rfl)) (v := .int .i64 nc) (fun wp hp=>by
    unfold A6
    go_simp<;>rfl) ?_
   exact hnext (A6 (upd x 295 (.int .i64 nc))) w3 ⟨_,rfl,hI.put (by decide) rfl⟩
  ·have hop':=yaw hop;subst hop';have t32:=hI.tab.at (s:=292) (hdep ⟨32,.data⟩ (by simp) rfl) rfl rfl;have t35:=hI.tab.at (s:=295) (hdep ⟨35,.data⟩ (by simp) rfl) rfl rfl;have tg:=hI.tab.at (s:=291) (hdep ⟨31,.guard⟩ (by simp) rfl) rfl rfl;refine zbf rfl (za4 (g:=31) (sl:=291) (b:=true) rfl rfl (congrArg some tg)) (by decide) (zah (l:=[_]) (by kernel_rfl) _ (yaj.2 rfl)) (v := .slice (some ⟨gc,0,none⟩) nc cC) (fun wp hp=>by
    unfold A6
    go_simp<;>rfl) ?_
   exact hnext (A6 (upd x 296 (.slice (some ⟨gc,0,none⟩) nc cC))) w3 ⟨_,rfl,hI.put (by decide) rfl⟩
  ·have hop':=yaw hop;subst hop';have tg:=hI.tab.at (s:=291) (hdep ⟨31,.guard⟩ (by simp) rfl) rfl rfl;refine zbf rfl (za4 (g:=31) (sl:=291) (b:=true) rfl rfl (congrArg some tg)) (by decide) (zah (l:=[_]) (by kernel_rfl) _ (yaj.2 rfl)) (v := .pointer (some ⟨a0,2,none⟩)) (fun wp hp=>by
    unfold A6
    go_simp<;>rfl) ?_
   exact hnext (A6 (upd x 297 (.pointer (some ⟨a0,2,none⟩)))) w3 ⟨_,rfl,hI.put (by decide) rfl⟩
  ·have hop':=yaw hop;subst hop';have t37:=hI.tab.at (s:=297) (hdep ⟨37,.data⟩ (by simp) rfl) rfl rfl;have tg:=hI.tab.at (s:=291) (hdep ⟨31,.guard⟩ (by simp) rfl) rfl rfl;refine zbf rfl (za4 (g:=31) (sl:=291) (b:=true) rfl rfl (congrArg some tg)) (by decide) (zah (l:=[_]) (by kernel_rfl) _ (yaj.2 rfl)) (v := .slice as_ nc caps) (fun wp hp=>by
    have qy2:=cc.out _ _ y2.out wp hp;unfold A6
    go_simp<;>rfl) ?_
   exact hnext (A6 (upd x 298 (.slice as_ nc caps))) w3 ⟨_,rfl,hI.put (by decide) rfl⟩
  ·have hop':=yaw hop;subst hop';have t36:=hI.tab.at (s:=296) (hdep ⟨36,.data⟩ (by simp) rfl) rfl rfl;have t38:=hI.tab.at (s:=298) (hdep ⟨38,.data⟩ (by simp) rfl) rfl rfl;have tg:=hI.tab.at (s:=291) (hdep ⟨31,.guard⟩ (by simp) rfl) rfl rfl;refine zat rm_xc rfl (za4 (g:=31) (sl:=291) (b:=true) rfl rfl (congrArg some tg)) (by decide) rfl Try.func28 (by kernel_rfl) (by kernel_rfl) ?_;walk_nrm;show RM _ _ (G (Frame.enter Try.prog 28 #[x 296,x 298] .normal) _) w3;rw [t36,t38];refine zs3 (is.mono hI.low.same) (is2.mono hI.low.same) hsch fun w4 L4=>?_;rw [Frame.finish_at];exact hnext (A6 (upd x 299 (.bool true))) w4 ⟨_,rfl,(hI.grow L4).put (by decide) rfl⟩
  ·have hop':=yaw hop;subst hop';have t31:=hI.tab.at (s:=291) (hdep ⟨31,.data⟩ (by simp) rfl) rfl rfl;have t39:=hI.tab.at (s:=299) (hdep ⟨39,.data⟩ (by simp) rfl) rfl rfl;refine zbf rfl rfl (by decide) (zah (l:=[_]) (by kernel_rfl) _ (yaj.2 rfl)) (v := .bool true) (fun wp hp=>by
    unfold A6
    go_simp<;>rfl) ?_
   exact hnext (A6 (upd x 300 (.bool true))) w3 ⟨_,rfl,hI.put (by decide) rfl⟩
  ·have hop':=yaw hop;subst hop';have t40:=hI.tab.at (s:=300) (hdep ⟨40,.data⟩ (by simp) rfl) rfl rfl;refine zbf rfl rfl (by decide) (zah (l:=[_]) (by kernel_rfl) _ (yaj.2 rfl)) (v := .bool true) (fun wp hp=>by
    unfold A6
    go_simp<;>rfl) ?_
   exact hnext (A6 (upd x 4 (.bool true))) w3 ⟨_,rfl,fun j hj hne=>by rw [upd_ne _ _ hne];exact hI.xs j hj hne,fun j u hj hl=>by
    have hne:j≠41:=fun e=>by rw [e] at hj;cases hj
    rw [zcg hne] at hl;rw [upd_ne _ _ (by omega)];exact hI.tab j u hj hl,hI.low,fun _=>rfl⟩
end
theorem zv6 {base:Nat} {w:World} {e:TypeId} {v:Value} {l:List Int} {x:Int} (h:w.ownsRow base e 1 v (l.length+1) (zdq (l++[x]))) (hl:∀ y∈l,zb7 y) :
  ∃ g c,v = .slice (some ⟨g,0,none⟩) (l.length+1) c∧l.length+1≤c∧c≤maxLen∧g < w.heap.size∧IntsIn w (.slice (some ⟨g,0,none⟩) l.length c) l∧w.cell? ⟨g,l.length,none⟩=some (.int .i64 x):=by
 obtain ⟨h0,⟨_,q⟩|⟨g,c,cur,rfl,q1,q2,q3,q4,q5,q6⟩⟩:=h
 ·cases q
 rw [Nat.mul_one] at q6;have hg:∀ (j:Nat) (y:Int),(l++[x])[j]?=some y→w.cell? ⟨g,j,none⟩=some (.int .i64 y):=fun j y hj=>by
  have hlt:=(yai.1 hj).1;rw [List.length_append,List.length_singleton] at hlt;rw [zac q2 j,← Array.getElem?_toList,← List.getElem?_take_of_lt hlt,q6];unfold zdq;rw [List.getElem?_map,hj];rfl
 refine ⟨g,c,rfl,q3,q4,(yah.1 q2).1,⟨hl,_,c,rfl,by omega,fun _=>⟨g,0,rfl,fun j y hj=>?_⟩⟩,hg _ _ (by simp)⟩;rw [Nat.zero_add];exact hg j y (by rw [List.getElem?_append_left (yai.1 hj).1];exact hj)
section
variable {Z:Machine→Trace→Prop} {cs:List Frame} {w:World}
theorem keepsA {c1 c2:Array Value} (hret:∀ y w' a0 a1,y 2 = .pointer (some ⟨a0,0,none⟩)→y 3 = .pointer (some ⟨a1,0,none⟩)→LeftW w w'→w'.heap[a0]?=some (.cells c1 71 (0,0))→w'.heap[a1]?=some (.cells c2 71 (0,0))→RM Try.prog Z (G ((base 11).at (A6 y) [.code X1]) cs) w') :
  RM Try.prog Z (G (Frame.enter Try.prog 11 #[.agg c1,.agg c2] .normal) cs) w:=by
 have hr':=yay hret;clear hret;rw [enter_at _ Try.func11 rfl];simp only [Try.ntmps11,yan,yau,yav,Nat.reduceAdd,Nat.reduceSub];rw [zhm _ (by simp)];show RM Try.prog Z (G ((base 11).at _ [.code c6]) cs) w;have x0:(#[Value.agg c1,Value.agg c2]++Array.replicate 299 undef).getD 0 undef = .agg c1:=by simp [Array.getD_eq_getD_getElem?,Array.getElem?_append]
 have x1:(#[Value.agg c1,Value.agg c2]++Array.replicate 299 undef).getD 1 undef = .agg c2:=by simp [Array.getD_eq_getD_getElem?,Array.getElem?_append]
 generalize #[Value.agg c1,Value.agg c2]++Array.replicate 299 undef=A at *;refine zas (c:=c6) rm_xc rfl fun R0 hR0=>?_;rw [show cA c6=Code.region _ _ _ from rfl]
 unfold A6;simp only [x0,x1];refine zb9 ztq (zab zaf (by kernel_rfl)) rfl (zaa Try.func11) rfl fun wp hp=>?_;replace hp:=yay hp
 go_wp2_with fail
 refine fun w1 h1=>?_;have L1:LeftW w w1:=(((LeftW.of_sim hp.out.heap hp.out.outs).alloc (.cells c1 71)).alloc (.cells c2 71)).sim h1;have b0:w1.heap[wp.heap.size]?=some (.cells c1 71 (0,0)):=by
  rw [h1.heap];exact (Below.heap_alloc _ _ _ (by simp)).trans (heap_alloc_new _ _)
 have b1:w1.heap[(wp.alloc (.cells c1 71)).heap.size]?=some (.cells c2 71 (0,0)):=by rw [h1.heap];exact heap_alloc_new _ _
 rw [show (wp.alloc (.cells c1 71)).heap.size=wp.heap.size+1 by simp] at b1;generalize wp.heap.size=N at *;clear h1 hp wp;obtain rfl:=hR0.out;clear hR0;rw [zhm _ rfl];refine zas (c:=cB c6) rm_xc rfl fun R0 hR0=>?_;rw [show cA (cB c6)=Code.seq _ _ from rfl]
 refine zag rm_xc fun R1 hR1=>?_;refine zjy rm_xc ?_;refine zat rm_xc rfl rfl (by decide) rfl Try.func29 (by kernel_rfl) (by kernel_rfl) ?_;walk_nrm;refine zq1 fun w2 L2=>?_;rw [Frame.finish_at];unfold A6;walk_nrm;refine zde 1 1 (by decide) (by decide) (zah (by kernel_rfl)) fun wp hp=>?_;simp only [yaf,yag,yad,yae];replace hp:=yay hp
 go_wp2_with fail
 refine zbm rfl fun w3 h1=>?_;have L3:LeftW w1 w3:=L2.trans ((LeftW.of_sim hp.out.heap hp.out.outs).sim h1);clear h1 hp wp L2;refine zad rm_xc ?_;obtain rfl:=hR1.out;clear hR1;refine zao rm_xc (t:=false) rfl ?_;refine zbq rm_xc ?_;obtain rfl:=hR0.out;clear hR0;rw [zhm _ rfl];exact hr'.out _ w3 N (N+1) rfl rfl (L1.trans L3) ((L3.same _ (yah.1 b0).1).trans b0) ((L3.same _ (yah.1 b1).1).trans b1)
end
end Go.Proofs.Ytofacoojpgkbiaa
