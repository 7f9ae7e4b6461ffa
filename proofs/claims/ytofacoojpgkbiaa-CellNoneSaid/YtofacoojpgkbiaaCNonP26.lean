/-
  A part of a proof. No condition of its own.
-/
import Derived.Test.YtofacoojpgkbiaaCNonP25
set_option linter.unusedVariables false
set_option maxHeartbeats 8000000
set_option linter.unusedSimpArgs false
namespace Go.Proofs.Ytofacoojpgkbiaa
open Go.Conc Go.RowKit
open Go.ConcN (upd upd_ne upd_same)
set_option maxRecDepth 100000
structure JT (base hi:Nat) (W:World) (tv:Nat→Option Value) (z:Nat→Value) (listed:Array Bool) (x:Nat→Value) (w:World):Prop where
 xs:∀ j,j < hi→x j=z j
 tab:Tab tv base listed x
 low:LeftW W w
theorem JT.put {base hi:Nat} {W w w':World} {tv:Nat→Option Value} {z x:Nat→Value} {listed:Array Bool} (h:JT base hi W tv z listed x w) {i:Nat} {u:Value} (hb:hi≤base) (ht:tv i=some u∨tv i=none) (l:LeftW w w'):JT base hi W tv z (listed.setIfInBounds i true) (upd x (base+i) u) w' :=
 ⟨fun j hj=>by rw [upd_ne _ _ (by omega)];exact h.xs j hj,h.tab.put ht,h.low.trans l⟩
def tv9N (b off len cap jj:Nat) (o:OpD):Nat→Option Value
 | 0=>some (.agg #[.pointer none,.pointer none,.pointer none])|1=>some (.slice (some ⟨b,off,none⟩) len cap)|2=>some (.int .i64 jj)|3=>some (.pointer (some ⟨b,off+jj * 4,none⟩))|4=>some (opV o)
 | _=>none
section
variable {Z:Machine→Trace→Prop} {cs:List Frame} {W:World} {kn b off len cap jj:Nat} {o:OpD} {z:Nat→Value} {R:List Item}
theorem zr4 (z0:z 0 = .slice (some ⟨b,off,none⟩) len cap) (z3:z 3 = .pointer (some ⟨kn,0,none⟩)) (z6:z 6 = .int .i64 jj) (hjl:jj < len) (hl9:len≤9223372036854775807) (hops:zid W b (off+jj * 4) o)
  (n0:W.cell? ⟨kn,0,none⟩=some (.pointer none)) (n1:W.cell? ⟨kn,1,none⟩=some (.pointer none)) (n2:W.cell? ⟨kn,2,none⟩=some (.pointer none))
  (hret:∀ x w',(∀ j,j < 15→x j=z j)→LeftW W w'→RM Try.prog Z (G ((base 10).at (A10 x) R) cs) w') :
  RM Try.prog Z (G ((base 10).at (A10 z) (.code (cA inN)::R)) cs) W:=by
 have hr':=yay fun (x:Nat→Value) w' (h1:∀ j,j < 15→x j=z j) h3=>hret x w' h1 h3;clear hret;obtain ⟨o0,o1,o2,o3⟩:=hops;have hlt':(jj:Int) < (len:Int):=by omega
 have hj0:(0:Int)≤(jj:Int):=by omega
 rw [show cA inN=Code.region _ _ _ from rfl]
 refine ziw rfl (fun listed a w=>∃ x,a=A10 x∧JT 34 15 W (tv9N b off len cap jj o) z listed x w) ?i0 ?ie ?ist
 case i0=>exact ⟨z,rfl,fun _ _=>rfl,.zero,.refl⟩
 case ie =>
  rintro listed a w hsz hrd ⟨x,rfl,hI⟩;have hall:=ze2 (zm9 (by kernel_rfl)) hsz hrd;refine zad rm_xc ?_;exact hr'.out x w hI.xs hI.low
 case ist =>
  rintro listed i hsz hir a w3 rr ⟨x,rfl,hI⟩ hnext;obtain ⟨hun,op,hop,hdep⟩:=mem_ready.1 hir;have hi6:i < 6:=by
   have:=(yah.1 hop).1
   simpa using this
  have x0:=(hI.xs 0 (by decide)).trans z0;have x3:=(hI.xs 3 (by decide)).trans z3;have x6:=(hI.xs 6 (by decide)).trans z6;have cc:Hid (∀ (a:Addr) v,W.cell? a=some v→∀ wp:World,wp.heap=w3.heap→wp.cell? a=some v):=yay fun a v q wp hp=>by
   refine (World.cell?_of_block (w:=W) ?_).trans q;show wp.heap[a.block]?=W.heap[a.block]?;rw [hp];exact hI.low.same _ (World.block_lt_of_cell? W _ q)
  replace o0:=yay o0;replace o1:=yay o1;replace o2:=yay o2;replace o3:=yay o3;replace n0:=yay n0;replace n1:=yay n1;replace n2:=yay n2;have hcase:i=0∨i=1∨i=2∨i=3∨i=4∨i=5:=by omega
  rcases hcase with rfl|rfl|rfl|rfl|rfl|rfl
  ·refine zau rfl rfl (by decide) (zaf (l:=[_]) (by kernel_rfl) _ (yaj.2 rfl)) (v := .agg #[.pointer none,.pointer none,.pointer none]) (fun wp hp=>by
    have q_n0:=cc.out _ _ n0.out wp hp.heap;have q_n1:=cc.out _ _ n1.out wp hp.heap;have q_n2:=cc.out _ _ n2.out wp hp.heap;unfold A10
    try unfold gpv opV zbu at *
    go_simp<;>rfl) ?_
   exact hnext (A10 (upd x 34 (.agg #[.pointer none,.pointer none,.pointer none]))) w3 ⟨_,rfl,hI.put (i:=0) (by decide) (.inl rfl) .refl⟩
  ·refine zau rfl rfl (by decide) (zaf (l:=[_]) (by kernel_rfl) _ (yaj.2 rfl)) (v := .slice (some ⟨b,off,none⟩) len cap) (fun wp hp=>by
    unfold A10
    try unfold gpv opV zbu at *
    go_simp<;>rfl) ?_
   exact hnext (A10 (upd x 35 (.slice (some ⟨b,off,none⟩) len cap))) w3 ⟨_,rfl,hI.put (i:=1) (by decide) (.inl rfl) .refl⟩
  ·refine zau rfl rfl (by decide) (zaf (l:=[_]) (by kernel_rfl) _ (yaj.2 rfl)) (v := .int .i64 jj) (fun wp hp=>by
    unfold A10
    try unfold gpv opV zbu at *
    go_simp<;>rfl) ?_
   exact hnext (A10 (upd x 36 (.int .i64 jj))) w3 ⟨_,rfl,hI.put (i:=2) (by decide) (.inl rfl) .refl⟩
  ·have hop':=yaw hop;subst hop';have t1:=hI.tab.at (s:=35) (hdep ⟨1,.data⟩ (by simp) rfl) rfl rfl;have t2:=hI.tab.at (s:=36) (hdep ⟨2,.data⟩ (by simp) rfl) rfl rfl;refine zau rfl rfl (by decide) (zaf (l:=[_]) (by kernel_rfl) _ (yaj.2 rfl)) (v := .pointer (some ⟨b,off+jj * 4,none⟩)) (fun wp hp=>by
    unfold A10
    try unfold gpv opV zbu at *
    go_simp<;>rfl) ?_
   exact hnext (A10 (upd x 37 (.pointer (some ⟨b,off+jj * 4,none⟩)))) w3 ⟨_,rfl,hI.put (i:=3) (by decide) (.inl rfl) .refl⟩
  ·have hop':=yaw hop;subst hop';have t3:=hI.tab.at (s:=37) (hdep ⟨3,.data⟩ (by simp) rfl) rfl rfl;refine zau rfl rfl (by decide) (zaf (l:=[_]) (by kernel_rfl) _ (yaj.2 rfl)) (v:=opV o) (fun wp hp=>by
    have q_o0:=cc.out _ _ o0.out wp hp.heap;have q_o1:=cc.out _ _ o1.out wp hp.heap;have q_o2:=cc.out _ _ o2.out wp hp.heap;have q_o3:=cc.out _ _ o3.out wp hp.heap;unfold A10
    try unfold gpv opV zbu at *
    go_simp<;>rfl) ?_
   exact hnext (A10 (upd x 38 (opV o))) w3 ⟨_,rfl,hI.put (i:=4) (by decide) (.inl rfl) .refl⟩
  ·have hop':=yaw hop;subst hop';have t0:=hI.tab.at (s:=34) (hdep ⟨0,.data⟩ (by simp) rfl) rfl rfl;have t4:=hI.tab.at (s:=38) (hdep ⟨4,.data⟩ (by simp) rfl) rfl rfl;refine zal rm_xc rfl rfl (by decide) rfl Try.func35 (by kernel_rfl) (by kernel_rfl) ?_;walk_nrm;show RM _ _ (G (Frame.enter Try.prog 35 #[x 34,.nilIface,x 38] .normal) _) w3;rw [t0,t4];refine zqw fun v w4 L4=>?_;rw [Frame.finish_at];exact hnext (A10 (upd x 39 (v))) w4 ⟨_,rfl,hI.put (i:=5) (by decide) (.inr rfl) L4⟩
end
def tv10N (kn:Nat):Nat→Option Value
 | 0=>some (.pointer (some ⟨kn,0,none⟩))|1=>some (.pointer none)|2=>some (.int .i64 0)|3=>some (.bool false)|4=>some (.bool false)|5=>some (.pointer (some ⟨kn,1,none⟩))|6=>some (.pointer none)|7=>some (.bool false)|8=>some (.bool false)|9=>some (.bool false)|10=>some (.pointer (some ⟨kn,2,none⟩))|11=>some (.pointer none)|12=>some (.int .i64 0)|13=>some (.bool false)|14=>some (.bool false)|15=>some (.bool false)|16=>some (.pointer (some ⟨kn,0,none⟩))|17=>some (.pointer none)|18=>some (.int .i64 0)|19=>some (.bool false)|20=>some (.bool false)|21=>some (.bool false)|22=>some (.pointer (some ⟨kn,0,none⟩))|23=>some (.pointer none)|24=>some (.int .i64 0)|25=>some (.bool false)|26=>some (.bool false)|27=>some (.bool false)|28=>some (.pointer (some ⟨kn,0,none⟩))|29=>some (.pointer none)|30=>some (.int .i64 0)|31=>some (.bool false)|32=>some (.bool false)|33=>some (.bool false)|34=>some (.pointer (some ⟨kn,0,none⟩))|35=>some (.pointer none)|36=>some (.bool false)|37=>some (.bool false)|38=>some (.bool false)|39=>some (.pointer (some ⟨kn,1,none⟩))|40=>some (.pointer none)|41=>some (.bool false)|42=>some (.bool false)|43=>some (.bool false)|44=>some (.pointer (some ⟨kn,1,none⟩))|45=>some (.pointer none)|46=>some (.bool false)|47=>some (.bool false)|48=>some (.bool false)|49=>some (.pointer (some ⟨kn,1,none⟩))|50=>some (.pointer none)|51=>some (.bool false)|52=>some (.bool false)|53=>some (.bool false)|54=>some (.pointer (some ⟨kn,2,none⟩))|55=>some (.pointer none)|56=>some (.int .i64 0)|57=>some (.bool false)|58=>some (.bool false)|59=>some (.bool false)|60=>some (.pointer (some ⟨kn,2,none⟩))|61=>some (.pointer none)|62=>some (.agg #[.pointer none,.pointer none])|63=>some (.int .i64 0)|64=>some (.bool false)|65=>some (.bool false)|66=>some (.bool false)|67=>some (.pointer (some ⟨kn,2,none⟩))|68=>some (.pointer none)|69=>some (.pointer (some ⟨kn,2,none⟩))|70=>some (.pointer none)|71=>some (.agg #[.pointer none,.pointer none])|72=>some (.bool false)|73=>some (.bool false)
 | _=>none
section
variable {Z:Machine→Trace→Prop} {cs:List Frame} {W:World} {kn:Nat} {z:Nat→Value} {R:List Item}
theorem zqn (z3:z 3 = .pointer (some ⟨kn,0,none⟩)) (n0:W.cell? ⟨kn,0,none⟩=some (.pointer none)) (n1:W.cell? ⟨kn,1,none⟩=some (.pointer none)) (n2:W.cell? ⟨kn,2,none⟩=some (.pointer none))
  (hret:∀ x w',(∀ j,j < 15→x j=z j)→x 113 = .bool false→LeftW W w'→RM Try.prog Z (G ((base 10).at (A10 x) R) cs) w') :
  RM Try.prog Z (G ((base 10).at (A10 z) (.code (cA (cA (cB inN)))::R)) cs) W:=by
 have hr':=yay fun (x:Nat→Value) w' (h1:∀ j,j < 15→x j=z j) (h2:x 113 = .bool false) h3=>hret x w' h1 h2 h3;clear hret;rw [show cA (cA (cB inN))=Code.region _ _ _ from rfl]
 refine ziw rfl (fun listed a w=>∃ x,a=A10 x∧JT 40 15 W (tv10N kn) z listed x w) ?i0 ?ie ?ist
 case i0=>exact ⟨z,rfl,fun _ _=>rfl,.zero,.refl⟩
 case ie =>
  rintro listed a w hsz hrd ⟨x,rfl,hI⟩;have hall:=ze2 (zm9 (by kernel_rfl)) hsz hrd;refine zad rm_xc ?_;exact hr'.out x w hI.xs (hI.tab.at (s:=113) (hall 73 (by decide)) rfl rfl) hI.low
 case ist =>
  rintro listed i hsz hir a w3 rr ⟨x,rfl,hI⟩ hnext;obtain ⟨hun,op,hop,hdep⟩:=mem_ready.1 hir;have hi74:i < 74:=by
   have:=(yah.1 hop).1
   simpa using this
  have x3:=(hI.xs 3 (by decide)).trans z3;have cc:Hid (∀ (a:Addr) v,W.cell? a=some v→∀ wp:World,wp.heap=w3.heap→wp.cell? a=some v):=yay fun a v q wp hp=>by
   refine (World.cell?_of_block (w:=W) ?_).trans q;show wp.heap[a.block]?=W.heap[a.block]?;rw [hp];exact hI.low.same _ (World.block_lt_of_cell? W _ q)
  replace n0:=yay n0;replace n1:=yay n1;replace n2:=yay n2;have hcase:i=0∨i=1∨i=2∨i=3∨i=4∨i=5∨i=6∨i=7∨i=8∨i=9∨i=10∨i=11∨i=12∨i=13∨i=14∨i=15∨i=16∨i=17∨i=18∨i=19∨i=20∨i=21∨i=22∨i=23∨i=24∨i=25∨i=26∨i=27∨i=28∨i=29∨i=30∨i=31∨i=32∨i=33∨i=34∨i=35∨i=36∨i=37∨i=38∨i=39∨i=40∨i=41∨i=42∨i=43∨i=44∨i=45∨i=46∨i=47∨i=48∨i=49∨i=50∨i=51∨i=52∨i=53∨i=54∨i=55∨i=56∨i=57∨i=58∨i=59∨i=60∨i=61∨i=62∨i=63∨i=64∨i=65∨i=66∨i=67∨i=68∨i=69∨i=70∨i=71∨i=72∨i=73:=by omega
  rcases hcase with rfl|rfl|rfl|rfl|rfl|rfl|rfl|rfl|rfl|rfl|rfl|rfl|rfl|rfl|rfl|rfl|rfl|rfl|rfl|rfl|rfl|rfl|rfl|rfl|rfl|rfl|rfl|rfl|rfl|rfl|rfl|rfl|rfl|rfl|rfl|rfl|rfl|rfl|rfl|rfl|rfl|rfl|rfl|rfl|rfl|rfl|rfl|rfl|rfl|rfl|rfl|rfl|rfl|rfl|rfl|rfl|rfl|rfl|rfl|rfl|rfl|rfl|rfl|rfl|rfl|rfl|rfl|rfl|rfl|rfl|rfl|rfl|rfl|rfl
  ·refine zau rfl rfl (by decide) (zaf (l:=[_]) (by kernel_rfl) _ (yaj.2 rfl)) (v := .pointer (some ⟨kn,0,none⟩)) (fun wp hp=>by
    unfold A10
    try unfold gpv opV zbu at *
    go_simp<;>rfl) ?_
   exact hnext (A10 (upd x 40 (.pointer (some ⟨kn,0,none⟩)))) w3 ⟨_,rfl,hI.put (i:=0) (by decide) (.inl rfl) .refl⟩
  ·have hop':=yaw hop;subst hop';have t0:=hI.tab.at (s:=40) (hdep ⟨0,.data⟩ (by simp) rfl) rfl rfl;refine zau rfl rfl (by decide) (zaf (l:=[_]) (by kernel_rfl) _ (yaj.2 rfl)) (v := .pointer none) (fun wp hp=>by
    have q_n0:=cc.out _ _ n0.out wp hp.heap;unfold A10
    try unfold gpv opV zbu at *
    go_simp<;>rfl) ?_
   exact hnext (A10 (upd x 41 (.pointer none))) w3 ⟨_,rfl,hI.put (i:=1) (by decide) (.inl rfl) .refl⟩
  ·have hop':=yaw hop;subst hop';have t1:=hI.tab.at (s:=41) (hdep ⟨1,.data⟩ (by simp) rfl) rfl rfl;refine zal rm_xc rfl rfl (by decide) rfl Try.func37 (by kernel_rfl) (by kernel_rfl) ?_;walk_nrm;show RM _ _ (G (Frame.enter Try.prog 37 #[x 41] .normal) _) w3;rw [t1];refine zdh (v := .int .i64 0) (by decide) (fun W' hW=>zuv W') fun w4 L4=>?_;rw [Frame.finish_at];exact hnext (A10 (upd x 42 (.int .i64 0))) w4 ⟨_,rfl,hI.put (i:=2) (by decide) (.inl rfl) L4⟩
  ·have hop':=yaw hop;subst hop';have t2:=hI.tab.at (s:=42) (hdep ⟨2,.data⟩ (by simp) rfl) rfl rfl;refine zau rfl rfl (by decide) (zaf (l:=[_]) (by kernel_rfl) _ (yaj.2 rfl)) (v := .bool false) (fun wp hp=>by
    unfold A10
    try unfold gpv opV zbu at *
    go_simp<;>rfl) ?_
   exact hnext (A10 (upd x 43 (.bool false))) w3 ⟨_,rfl,hI.put (i:=3) (by decide) (.inl rfl) .refl⟩
  ·have hop':=yaw hop;subst hop';have t3:=hI.tab.at (s:=43) (hdep ⟨3,.data⟩ (by simp) rfl) rfl rfl;refine zau rfl rfl (by decide) (zaf (l:=[_]) (by kernel_rfl) _ (yaj.2 rfl)) (v := .bool false) (fun wp hp=>by
    unfold A10
    try unfold gpv opV zbu at *
    go_simp<;>rfl) ?_
   exact hnext (A10 (upd x 44 (.bool false))) w3 ⟨_,rfl,hI.put (i:=4) (by decide) (.inl rfl) .refl⟩
  ·have hop':=yaw hop;subst hop';have tg:=hI.tab.at (s:=44) (hdep ⟨4,.guard⟩ (by simp) rfl) rfl rfl;refine zau rfl (zao (g:=4) (sl:=44) (b:=false) rfl rfl (congrArg some tg)) (by decide) (zaf (l:=[_]) (by kernel_rfl) _ (yaj.2 rfl)) (v := .pointer (some ⟨kn,1,none⟩)) (fun wp hp=>by
    unfold A10
    try unfold gpv opV zbu at *
    go_simp<;>rfl) ?_
   exact hnext (A10 (upd x 45 (.pointer (some ⟨kn,1,none⟩)))) w3 ⟨_,rfl,hI.put (i:=5) (by decide) (.inl rfl) .refl⟩
  ·have hop':=yaw hop;subst hop';have t5:=hI.tab.at (s:=45) (hdep ⟨5,.data⟩ (by simp) rfl) rfl rfl;have tg:=hI.tab.at (s:=44) (hdep ⟨4,.guard⟩ (by simp) rfl) rfl rfl;refine zau rfl (zao (g:=4) (sl:=44) (b:=false) rfl rfl (congrArg some tg)) (by decide) (zaf (l:=[_]) (by kernel_rfl) _ (yaj.2 rfl)) (v := .pointer none) (fun wp hp=>by
    have q_n1:=cc.out _ _ n1.out wp hp.heap;unfold A10
    try unfold gpv opV zbu at *
    go_simp<;>rfl) ?_
   exact hnext (A10 (upd x 46 (.pointer none))) w3 ⟨_,rfl,hI.put (i:=6) (by decide) (.inl rfl) .refl⟩
  ·have hop':=yaw hop;subst hop';have t6:=hI.tab.at (s:=46) (hdep ⟨6,.data⟩ (by simp) rfl) rfl rfl;have tg:=hI.tab.at (s:=44) (hdep ⟨4,.guard⟩ (by simp) rfl) rfl rfl;refine zal rm_xc rfl (zao (g:=4) (sl:=44) (b:=false) rfl rfl (congrArg some tg)) (by decide) rfl Try.func36 (by kernel_rfl) (by kernel_rfl) ?_;walk_nrm;show RM _ _ (G (Frame.enter Try.prog 36 #[x 46] .normal) _) w3;rw [t6];refine zdh (v := .bool false) (by decide) (fun W' hW=>zuw W') fun w4 L4=>?_;rw [Frame.finish_at];exact hnext (A10 (upd x 47 (.bool false))) w4 ⟨_,rfl,hI.put (i:=7) (by decide) (.inl rfl) L4⟩
  ·have hop':=yaw hop;subst hop';have t4:=hI.tab.at (s:=44) (hdep ⟨4,.data⟩ (by simp) rfl) rfl rfl;have t7:=hI.tab.at (s:=47) (hdep ⟨7,.data⟩ (by simp) rfl) rfl rfl;refine zau rfl rfl (by decide) (zaf (l:=[_]) (by kernel_rfl) _ (yaj.2 rfl)) (v := .bool false) (fun wp hp=>by
    unfold A10
    try unfold gpv opV zbu at *
    go_simp<;>rfl) ?_
   exact hnext (A10 (upd x 48 (.bool false))) w3 ⟨_,rfl,hI.put (i:=8) (by decide) (.inl rfl) .refl⟩
  ·have hop':=yaw hop;subst hop';have t8:=hI.tab.at (s:=48) (hdep ⟨8,.data⟩ (by simp) rfl) rfl rfl;refine zau rfl rfl (by decide) (zaf (l:=[_]) (by kernel_rfl) _ (yaj.2 rfl)) (v := .bool false) (fun wp hp=>by
    unfold A10
    try unfold gpv opV zbu at *
    go_simp<;>rfl) ?_
   exact hnext (A10 (upd x 49 (.bool false))) w3 ⟨_,rfl,hI.put (i:=9) (by decide) (.inl rfl) .refl⟩
  ·have hop':=yaw hop;subst hop';have tg:=hI.tab.at (s:=49) (hdep ⟨9,.guard⟩ (by simp) rfl) rfl rfl;refine zau rfl (zao (g:=9) (sl:=49) (b:=false) rfl rfl (congrArg some tg)) (by decide) (zaf (l:=[_]) (by kernel_rfl) _ (yaj.2 rfl)) (v := .pointer (some ⟨kn,2,none⟩)) (fun wp hp=>by
    unfold A10
    try unfold gpv opV zbu at *
    go_simp<;>rfl) ?_
   exact hnext (A10 (upd x 50 (.pointer (some ⟨kn,2,none⟩)))) w3 ⟨_,rfl,hI.put (i:=10) (by decide) (.inl rfl) .refl⟩
  ·have hop':=yaw hop;subst hop';have t10:=hI.tab.at (s:=50) (hdep ⟨10,.data⟩ (by simp) rfl) rfl rfl;have tg:=hI.tab.at (s:=49) (hdep ⟨9,.guard⟩ (by simp) rfl) rfl rfl;refine zau rfl (zao (g:=9) (sl:=49) (b:=false) rfl rfl (congrArg some tg)) (by decide) (zaf (l:=[_]) (by kernel_rfl) _ (yaj.2 rfl)) (v := .pointer none) (fun wp hp=>by
    have q_n2:=cc.out _ _ n2.out wp hp.heap;unfold A10
    try unfold gpv opV zbu at *
    go_simp<;>rfl) ?_
   exact hnext (A10 (upd x 51 (.pointer none))) w3 ⟨_,rfl,hI.put (i:=11) (by decide) (.inl rfl) .refl⟩
  ·have hop':=yaw hop;subst hop';have t11:=hI.tab.at (s:=51) (hdep ⟨11,.data⟩ (by simp) rfl) rfl rfl;have tg:=hI.tab.at (s:=49) (hdep ⟨9,.guard⟩ (by simp) rfl) rfl rfl;refine zal rm_xc rfl (zao (g:=9) (sl:=49) (b:=false) rfl rfl (congrArg some tg)) (by decide) rfl Try.func38 (by kernel_rfl) (by kernel_rfl) ?_;walk_nrm;show RM _ _ (G (Frame.enter Try.prog 38 #[x 51] .normal) _) w3;rw [t11];refine zdh (v := .int .i64 0) (by decide) (fun W' hW=>nilBoxV W') fun w4 L4=>?_;rw [Frame.finish_at];exact hnext (A10 (upd x 52 (.int .i64 0))) w4 ⟨_,rfl,hI.put (i:=12) (by decide) (.inl rfl) L4⟩
  ·have hop':=yaw hop;subst hop';have t12:=hI.tab.at (s:=52) (hdep ⟨12,.data⟩ (by simp) rfl) rfl rfl;have tg:=hI.tab.at (s:=49) (hdep ⟨9,.guard⟩ (by simp) rfl) rfl rfl;refine zau rfl (zao (g:=9) (sl:=49) (b:=false) rfl rfl (congrArg some tg)) (by decide) (zaf (l:=[_]) (by kernel_rfl) _ (yaj.2 rfl)) (v := .bool false) (fun wp hp=>by
    unfold A10
    try unfold gpv opV zbu at *
    go_simp<;>rfl) ?_
   exact hnext (A10 (upd x 53 (.bool false))) w3 ⟨_,rfl,hI.put (i:=13) (by decide) (.inl rfl) .refl⟩
  ·have hop':=yaw hop;subst hop';have t9:=hI.tab.at (s:=49) (hdep ⟨9,.data⟩ (by simp) rfl) rfl rfl;have t13:=hI.tab.at (s:=53) (hdep ⟨13,.data⟩ (by simp) rfl) rfl rfl;refine zau rfl rfl (by decide) (zaf (l:=[_]) (by kernel_rfl) _ (yaj.2 rfl)) (v := .bool false) (fun wp hp=>by
    unfold A10
    try unfold gpv opV zbu at *
    go_simp<;>rfl) ?_
   exact hnext (A10 (upd x 54 (.bool false))) w3 ⟨_,rfl,hI.put (i:=14) (by decide) (.inl rfl) .refl⟩
  ·have hop':=yaw hop;subst hop';have t14:=hI.tab.at (s:=54) (hdep ⟨14,.data⟩ (by simp) rfl) rfl rfl;refine zau rfl rfl (by decide) (zaf (l:=[_]) (by kernel_rfl) _ (yaj.2 rfl)) (v := .bool false) (fun wp hp=>by
    unfold A10
    try unfold gpv opV zbu at *
    go_simp<;>rfl) ?_
   exact hnext (A10 (upd x 55 (.bool false))) w3 ⟨_,rfl,hI.put (i:=15) (by decide) (.inl rfl) .refl⟩
  ·have hop':=yaw hop;subst hop';have tg:=hI.tab.at (s:=55) (hdep ⟨15,.guard⟩ (by simp) rfl) rfl rfl;refine zau rfl (zao (g:=15) (sl:=55) (b:=false) rfl rfl (congrArg some tg)) (by decide) (zaf (l:=[_]) (by kernel_rfl) _ (yaj.2 rfl)) (v := .pointer (some ⟨kn,0,none⟩)) (fun wp hp=>by
    unfold A10
    try unfold gpv opV zbu at *
    go_simp<;>rfl) ?_
   exact hnext (A10 (upd x 56 (.pointer (some ⟨kn,0,none⟩)))) w3 ⟨_,rfl,hI.put (i:=16) (by decide) (.inl rfl) .refl⟩
  ·have hop':=yaw hop;subst hop';have t16:=hI.tab.at (s:=56) (hdep ⟨16,.data⟩ (by simp) rfl) rfl rfl;have tg:=hI.tab.at (s:=55) (hdep ⟨15,.guard⟩ (by simp) rfl) rfl rfl;refine zau rfl (zao (g:=15) (sl:=55) (b:=false) rfl rfl (congrArg some tg)) (by decide) (zaf (l:=[_]) (by kernel_rfl) _ (yaj.2 rfl)) (v := .pointer none) (fun wp hp=>by
    have q_n0:=cc.out _ _ n0.out wp hp.heap;unfold A10
    try unfold gpv opV zbu at *
    go_simp<;>rfl) ?_
   exact hnext (A10 (upd x 57 (.pointer none))) w3 ⟨_,rfl,hI.put (i:=17) (by decide) (.inl rfl) .refl⟩
  ·have hop':=yaw hop;subst hop';have t17:=hI.tab.at (s:=57) (hdep ⟨17,.data⟩ (by simp) rfl) rfl rfl;have tg:=hI.tab.at (s:=55) (hdep ⟨15,.guard⟩ (by simp) rfl) rfl rfl;refine zal rm_xc rfl (zao (g:=15) (sl:=55) (b:=false) rfl rfl (congrArg some tg)) (by decide) rfl Try.func46 (by kernel_rfl) (by kernel_rfl) ?_;walk_nrm;show RM _ _ (G (Frame.enter Try.prog 46 #[x 57,.nilIface] .normal) _) w3;rw [t17];refine nil46 fun w4 L4=>?_;rw [Frame.finish_at];exact hnext (A10 (upd x 58 (.int .i64 0))) w4 ⟨_,rfl,hI.put (i:=18) (by decide) (.inl rfl) L4⟩
  ·have hop':=yaw hop;subst hop';have t18:=hI.tab.at (s:=58) (hdep ⟨18,.data⟩ (by simp) rfl) rfl rfl;have tg:=hI.tab.at (s:=55) (hdep ⟨15,.guard⟩ (by simp) rfl) rfl rfl;refine zau rfl (zao (g:=15) (sl:=55) (b:=false) rfl rfl (congrArg some tg)) (by decide) (zaf (l:=[_]) (by kernel_rfl) _ (yaj.2 rfl)) (v := .bool false) (fun wp hp=>by
    unfold A10
    try unfold gpv opV zbu at *
    go_simp<;>rfl) ?_
   exact hnext (A10 (upd x 59 (.bool false))) w3 ⟨_,rfl,hI.put (i:=19) (by decide) (.inl rfl) .refl⟩
  ·have hop':=yaw hop;subst hop';have t15:=hI.tab.at (s:=55) (hdep ⟨15,.data⟩ (by simp) rfl) rfl rfl;have t19:=hI.tab.at (s:=59) (hdep ⟨19,.data⟩ (by simp) rfl) rfl rfl;refine zau rfl rfl (by decide) (zaf (l:=[_]) (by kernel_rfl) _ (yaj.2 rfl)) (v := .bool false) (fun wp hp=>by
    unfold A10
    try unfold gpv opV zbu at *
    go_simp<;>rfl) ?_
   exact hnext (A10 (upd x 60 (.bool false))) w3 ⟨_,rfl,hI.put (i:=20) (by decide) (.inl rfl) .refl⟩
  ·have hop':=yaw hop;subst hop';have t20:=hI.tab.at (s:=60) (hdep ⟨20,.data⟩ (by simp) rfl) rfl rfl;refine zau rfl rfl (by decide) (zaf (l:=[_]) (by kernel_rfl) _ (yaj.2 rfl)) (v := .bool false) (fun wp hp=>by
    unfold A10
    try unfold gpv opV zbu at *
    go_simp<;>rfl) ?_
   exact hnext (A10 (upd x 61 (.bool false))) w3 ⟨_,rfl,hI.put (i:=21) (by decide) (.inl rfl) .refl⟩
  ·have hop':=yaw hop;subst hop';have tg:=hI.tab.at (s:=61) (hdep ⟨21,.guard⟩ (by simp) rfl) rfl rfl;refine zau rfl (zao (g:=21) (sl:=61) (b:=false) rfl rfl (congrArg some tg)) (by decide) (zaf (l:=[_]) (by kernel_rfl) _ (yaj.2 rfl)) (v := .pointer (some ⟨kn,0,none⟩)) (fun wp hp=>by
    unfold A10
    try unfold gpv opV zbu at *
    go_simp<;>rfl) ?_
   exact hnext (A10 (upd x 62 (.pointer (some ⟨kn,0,none⟩)))) w3 ⟨_,rfl,hI.put (i:=22) (by decide) (.inl rfl) .refl⟩
  ·have hop':=yaw hop;subst hop';have t22:=hI.tab.at (s:=62) (hdep ⟨22,.data⟩ (by simp) rfl) rfl rfl;have tg:=hI.tab.at (s:=61) (hdep ⟨21,.guard⟩ (by simp) rfl) rfl rfl;refine zau rfl (zao (g:=21) (sl:=61) (b:=false) rfl rfl (congrArg some tg)) (by decide) (zaf (l:=[_]) (by kernel_rfl) _ (yaj.2 rfl)) (v := .pointer none) (fun wp hp=>by
    have q_n0:=cc.out _ _ n0.out wp hp.heap;unfold A10
    try unfold gpv opV zbu at *
    go_simp<;>rfl) ?_
   exact hnext (A10 (upd x 63 (.pointer none))) w3 ⟨_,rfl,hI.put (i:=23) (by decide) (.inl rfl) .refl⟩
  ·have hop':=yaw hop;subst hop';have t23:=hI.tab.at (s:=63) (hdep ⟨23,.data⟩ (by simp) rfl) rfl rfl;have tg:=hI.tab.at (s:=61) (hdep ⟨21,.guard⟩ (by simp) rfl) rfl rfl;refine zal rm_xc rfl (zao (g:=21) (sl:=61) (b:=false) rfl rfl (congrArg some tg)) (by decide) rfl Try.func47 (by kernel_rfl) (by kernel_rfl) ?_;walk_nrm;show RM _ _ (G (Frame.enter Try.prog 47 #[x 63,.nilIface,.int .i64 3] .normal) _) w3;rw [t23];refine nil47 fun w4 L4=>?_;rw [Frame.finish_at];exact hnext (A10 (upd x 64 (.int .i64 0))) w4 ⟨_,rfl,hI.put (i:=24) (by decide) (.inl rfl) L4⟩
  ·have hop':=yaw hop;subst hop';have t24:=hI.tab.at (s:=64) (hdep ⟨24,.data⟩ (by simp) rfl) rfl rfl;have tg:=hI.tab.at (s:=61) (hdep ⟨21,.guard⟩ (by simp) rfl) rfl rfl;refine zau rfl (zao (g:=21) (sl:=61) (b:=false) rfl rfl (congrArg some tg)) (by decide) (zaf (l:=[_]) (by kernel_rfl) _ (yaj.2 rfl)) (v := .bool false) (fun wp hp=>by
    unfold A10
    try unfold gpv opV zbu at *
    go_simp<;>rfl) ?_
   exact hnext (A10 (upd x 65 (.bool false))) w3 ⟨_,rfl,hI.put (i:=25) (by decide) (.inl rfl) .refl⟩
  ·have hop':=yaw hop;subst hop';have t21:=hI.tab.at (s:=61) (hdep ⟨21,.data⟩ (by simp) rfl) rfl rfl;have t25:=hI.tab.at (s:=65) (hdep ⟨25,.data⟩ (by simp) rfl) rfl rfl;refine zau rfl rfl (by decide) (zaf (l:=[_]) (by kernel_rfl) _ (yaj.2 rfl)) (v := .bool false) (fun wp hp=>by
    unfold A10
    try unfold gpv opV zbu at *
    go_simp<;>rfl) ?_
   exact hnext (A10 (upd x 66 (.bool false))) w3 ⟨_,rfl,hI.put (i:=26) (by decide) (.inl rfl) .refl⟩
  ·have hop':=yaw hop;subst hop';have t26:=hI.tab.at (s:=66) (hdep ⟨26,.data⟩ (by simp) rfl) rfl rfl;refine zau rfl rfl (by decide) (zaf (l:=[_]) (by kernel_rfl) _ (yaj.2 rfl)) (v := .bool false) (fun wp hp=>by
    unfold A10
    try unfold gpv opV zbu at *
    go_simp<;>rfl) ?_
   exact hnext (A10 (upd x 67 (.bool false))) w3 ⟨_,rfl,hI.put (i:=27) (by decide) (.inl rfl) .refl⟩
  ·have hop':=yaw hop;subst hop';have tg:=hI.tab.at (s:=67) (hdep ⟨27,.guard⟩ (by simp) rfl) rfl rfl;refine zau rfl (zao (g:=27) (sl:=67) (b:=false) rfl rfl (congrArg some tg)) (by decide) (zaf (l:=[_]) (by kernel_rfl) _ (yaj.2 rfl)) (v := .pointer (some ⟨kn,0,none⟩)) (fun wp hp=>by
    unfold A10
    try unfold gpv opV zbu at *
    go_simp<;>rfl) ?_
   exact hnext (A10 (upd x 68 (.pointer (some ⟨kn,0,none⟩)))) w3 ⟨_,rfl,hI.put (i:=28) (by decide) (.inl rfl) .refl⟩
  ·have hop':=yaw hop;subst hop';have t28:=hI.tab.at (s:=68) (hdep ⟨28,.data⟩ (by simp) rfl) rfl rfl;have tg:=hI.tab.at (s:=67) (hdep ⟨27,.guard⟩ (by simp) rfl) rfl rfl;refine zau rfl (zao (g:=27) (sl:=67) (b:=false) rfl rfl (congrArg some tg)) (by decide) (zaf (l:=[_]) (by kernel_rfl) _ (yaj.2 rfl)) (v := .pointer none) (fun wp hp=>by
    have q_n0:=cc.out _ _ n0.out wp hp.heap;unfold A10
    try unfold gpv opV zbu at *
    go_simp<;>rfl) ?_
   exact hnext (A10 (upd x 69 (.pointer none))) w3 ⟨_,rfl,hI.put (i:=29) (by decide) (.inl rfl) .refl⟩
  ·have hop':=yaw hop;subst hop';have t29:=hI.tab.at (s:=69) (hdep ⟨29,.data⟩ (by simp) rfl) rfl rfl;have tg:=hI.tab.at (s:=67) (hdep ⟨27,.guard⟩ (by simp) rfl) rfl rfl;refine zal rm_xc rfl (zao (g:=27) (sl:=67) (b:=false) rfl rfl (congrArg some tg)) (by decide) rfl Try.func48 (by kernel_rfl) (by kernel_rfl) ?_;walk_nrm;show RM _ _ (G (Frame.enter Try.prog 48 #[x 69,.nilIface,.int .i64 3] .normal) _) w3;rw [t29];refine nil48 fun w4 L4=>?_;rw [Frame.finish_at];exact hnext (A10 (upd x 70 (.int .i64 0))) w4 ⟨_,rfl,hI.put (i:=30) (by decide) (.inl rfl) L4⟩
  ·have hop':=yaw hop;subst hop';have t30:=hI.tab.at (s:=70) (hdep ⟨30,.data⟩ (by simp) rfl) rfl rfl;have tg:=hI.tab.at (s:=67) (hdep ⟨27,.guard⟩ (by simp) rfl) rfl rfl;refine zau rfl (zao (g:=27) (sl:=67) (b:=false) rfl rfl (congrArg some tg)) (by decide) (zaf (l:=[_]) (by kernel_rfl) _ (yaj.2 rfl)) (v := .bool false) (fun wp hp=>by
    unfold A10
    try unfold gpv opV zbu at *
    go_simp<;>rfl) ?_
   exact hnext (A10 (upd x 71 (.bool false))) w3 ⟨_,rfl,hI.put (i:=31) (by decide) (.inl rfl) .refl⟩
  ·have hop':=yaw hop;subst hop';have t27:=hI.tab.at (s:=67) (hdep ⟨27,.data⟩ (by simp) rfl) rfl rfl;have t31:=hI.tab.at (s:=71) (hdep ⟨31,.data⟩ (by simp) rfl) rfl rfl;refine zau rfl rfl (by decide) (zaf (l:=[_]) (by kernel_rfl) _ (yaj.2 rfl)) (v := .bool false) (fun wp hp=>by
    unfold A10
    try unfold gpv opV zbu at *
    go_simp<;>rfl) ?_
   exact hnext (A10 (upd x 72 (.bool false))) w3 ⟨_,rfl,hI.put (i:=32) (by decide) (.inl rfl) .refl⟩
  ·have hop':=yaw hop;subst hop';have t32:=hI.tab.at (s:=72) (hdep ⟨32,.data⟩ (by simp) rfl) rfl rfl;refine zau rfl rfl (by decide) (zaf (l:=[_]) (by kernel_rfl) _ (yaj.2 rfl)) (v := .bool false) (fun wp hp=>by
    unfold A10
    try unfold gpv opV zbu at *
    go_simp<;>rfl) ?_
   exact hnext (A10 (upd x 73 (.bool false))) w3 ⟨_,rfl,hI.put (i:=33) (by decide) (.inl rfl) .refl⟩
  ·have hop':=yaw hop;subst hop';have tg:=hI.tab.at (s:=73) (hdep ⟨33,.guard⟩ (by simp) rfl) rfl rfl;refine zau rfl (zao (g:=33) (sl:=73) (b:=false) rfl rfl (congrArg some tg)) (by decide) (zaf (l:=[_]) (by kernel_rfl) _ (yaj.2 rfl)) (v := .pointer (some ⟨kn,0,none⟩)) (fun wp hp=>by
    unfold A10
    try unfold gpv opV zbu at *
    go_simp<;>rfl) ?_
   exact hnext (A10 (upd x 74 (.pointer (some ⟨kn,0,none⟩)))) w3 ⟨_,rfl,hI.put (i:=34) (by decide) (.inl rfl) .refl⟩
  ·have hop':=yaw hop;subst hop';have t34:=hI.tab.at (s:=74) (hdep ⟨34,.data⟩ (by simp) rfl) rfl rfl;have tg:=hI.tab.at (s:=73) (hdep ⟨33,.guard⟩ (by simp) rfl) rfl rfl;refine zau rfl (zao (g:=33) (sl:=73) (b:=false) rfl rfl (congrArg some tg)) (by decide) (zaf (l:=[_]) (by kernel_rfl) _ (yaj.2 rfl)) (v := .pointer none) (fun wp hp=>by
    have q_n0:=cc.out _ _ n0.out wp hp.heap;unfold A10
    try unfold gpv opV zbu at *
    go_simp<;>rfl) ?_
   exact hnext (A10 (upd x 75 (.pointer none))) w3 ⟨_,rfl,hI.put (i:=35) (by decide) (.inl rfl) .refl⟩
  ·have hop':=yaw hop;subst hop';have t35:=hI.tab.at (s:=75) (hdep ⟨35,.data⟩ (by simp) rfl) rfl rfl;have tg:=hI.tab.at (s:=73) (hdep ⟨33,.guard⟩ (by simp) rfl) rfl rfl;refine zal rm_xc rfl (zao (g:=33) (sl:=73) (b:=false) rfl rfl (congrArg some tg)) (by decide) rfl Try.func49 (by kernel_rfl) (by kernel_rfl) ?_;walk_nrm;show RM _ _ (G (Frame.enter Try.prog 49 #[x 75,.nilIface,.int .i64 0,.int .i64 3] .normal) _) w3;rw [t35];refine nil49 fun w4 L4=>?_;rw [Frame.finish_at];exact hnext (A10 (upd x 76 (.bool false))) w4 ⟨_,rfl,hI.put (i:=36) (by decide) (.inl rfl) L4⟩
  ·have hop':=yaw hop;subst hop';have t33:=hI.tab.at (s:=73) (hdep ⟨33,.data⟩ (by simp) rfl) rfl rfl;have t36:=hI.tab.at (s:=76) (hdep ⟨36,.data⟩ (by simp) rfl) rfl rfl;refine zau rfl rfl (by decide) (zaf (l:=[_]) (by kernel_rfl) _ (yaj.2 rfl)) (v := .bool false) (fun wp hp=>by
    unfold A10
    try unfold gpv opV zbu at *
    go_simp<;>rfl) ?_
   exact hnext (A10 (upd x 77 (.bool false))) w3 ⟨_,rfl,hI.put (i:=37) (by decide) (.inl rfl) .refl⟩
  ·have hop':=yaw hop;subst hop';have t37:=hI.tab.at (s:=77) (hdep ⟨37,.data⟩ (by simp) rfl) rfl rfl;refine zau rfl rfl (by decide) (zaf (l:=[_]) (by kernel_rfl) _ (yaj.2 rfl)) (v := .bool false) (fun wp hp=>by
    unfold A10
    try unfold gpv opV zbu at *
    go_simp<;>rfl) ?_
   exact hnext (A10 (upd x 78 (.bool false))) w3 ⟨_,rfl,hI.put (i:=38) (by decide) (.inl rfl) .refl⟩
  ·have hop':=yaw hop;subst hop';have tg:=hI.tab.at (s:=78) (hdep ⟨38,.guard⟩ (by simp) rfl) rfl rfl;refine zau rfl (zao (g:=38) (sl:=78) (b:=false) rfl rfl (congrArg some tg)) (by decide) (zaf (l:=[_]) (by kernel_rfl) _ (yaj.2 rfl)) (v := .pointer (some ⟨kn,1,none⟩)) (fun wp hp=>by
    unfold A10
    try unfold gpv opV zbu at *
    go_simp<;>rfl) ?_
   exact hnext (A10 (upd x 79 (.pointer (some ⟨kn,1,none⟩)))) w3 ⟨_,rfl,hI.put (i:=39) (by decide) (.inl rfl) .refl⟩
  ·have hop':=yaw hop;subst hop';have t39:=hI.tab.at (s:=79) (hdep ⟨39,.data⟩ (by simp) rfl) rfl rfl;have tg:=hI.tab.at (s:=78) (hdep ⟨38,.guard⟩ (by simp) rfl) rfl rfl;refine zau rfl (zao (g:=38) (sl:=78) (b:=false) rfl rfl (congrArg some tg)) (by decide) (zaf (l:=[_]) (by kernel_rfl) _ (yaj.2 rfl)) (v := .pointer none) (fun wp hp=>by
    have q_n1:=cc.out _ _ n1.out wp hp.heap;unfold A10
    try unfold gpv opV zbu at *
    go_simp<;>rfl) ?_
   exact hnext (A10 (upd x 80 (.pointer none))) w3 ⟨_,rfl,hI.put (i:=40) (by decide) (.inl rfl) .refl⟩
  ·have hop':=yaw hop;subst hop';have t40:=hI.tab.at (s:=80) (hdep ⟨40,.data⟩ (by simp) rfl) rfl rfl;have tg:=hI.tab.at (s:=78) (hdep ⟨38,.guard⟩ (by simp) rfl) rfl rfl;refine zal rm_xc rfl (zao (g:=38) (sl:=78) (b:=false) rfl rfl (congrArg some tg)) (by decide) rfl Try.func50 (by kernel_rfl) (by kernel_rfl) ?_;walk_nrm;show RM _ _ (G (Frame.enter Try.prog 50 #[x 80,.nilIface] .normal) _) w3;rw [t40];refine nil50 fun w4 L4=>?_;rw [Frame.finish_at];exact hnext (A10 (upd x 81 (.bool false))) w4 ⟨_,rfl,hI.put (i:=41) (by decide) (.inl rfl) L4⟩
  ·have hop':=yaw hop;subst hop';have t38:=hI.tab.at (s:=78) (hdep ⟨38,.data⟩ (by simp) rfl) rfl rfl;have t41:=hI.tab.at (s:=81) (hdep ⟨41,.data⟩ (by simp) rfl) rfl rfl;refine zau rfl rfl (by decide) (zaf (l:=[_]) (by kernel_rfl) _ (yaj.2 rfl)) (v := .bool false) (fun wp hp=>by
    unfold A10
    try unfold gpv opV zbu at *
    go_simp<;>rfl) ?_
   exact hnext (A10 (upd x 82 (.bool false))) w3 ⟨_,rfl,hI.put (i:=42) (by decide) (.inl rfl) .refl⟩
  ·have hop':=yaw hop;subst hop';have t42:=hI.tab.at (s:=82) (hdep ⟨42,.data⟩ (by simp) rfl) rfl rfl;refine zau rfl rfl (by decide) (zaf (l:=[_]) (by kernel_rfl) _ (yaj.2 rfl)) (v := .bool false) (fun wp hp=>by
    unfold A10
    try unfold gpv opV zbu at *
    go_simp<;>rfl) ?_
   exact hnext (A10 (upd x 83 (.bool false))) w3 ⟨_,rfl,hI.put (i:=43) (by decide) (.inl rfl) .refl⟩
  ·have hop':=yaw hop;subst hop';have tg:=hI.tab.at (s:=83) (hdep ⟨43,.guard⟩ (by simp) rfl) rfl rfl;refine zau rfl (zao (g:=43) (sl:=83) (b:=false) rfl rfl (congrArg some tg)) (by decide) (zaf (l:=[_]) (by kernel_rfl) _ (yaj.2 rfl)) (v := .pointer (some ⟨kn,1,none⟩)) (fun wp hp=>by
    unfold A10
    try unfold gpv opV zbu at *
    go_simp<;>rfl) ?_
   exact hnext (A10 (upd x 84 (.pointer (some ⟨kn,1,none⟩)))) w3 ⟨_,rfl,hI.put (i:=44) (by decide) (.inl rfl) .refl⟩
  ·have hop':=yaw hop;subst hop';have t44:=hI.tab.at (s:=84) (hdep ⟨44,.data⟩ (by simp) rfl) rfl rfl;have tg:=hI.tab.at (s:=83) (hdep ⟨43,.guard⟩ (by simp) rfl) rfl rfl;refine zau rfl (zao (g:=43) (sl:=83) (b:=false) rfl rfl (congrArg some tg)) (by decide) (zaf (l:=[_]) (by kernel_rfl) _ (yaj.2 rfl)) (v := .pointer none) (fun wp hp=>by
    have q_n1:=cc.out _ _ n1.out wp hp.heap;unfold A10
    try unfold gpv opV zbu at *
    go_simp<;>rfl) ?_
   exact hnext (A10 (upd x 85 (.pointer none))) w3 ⟨_,rfl,hI.put (i:=45) (by decide) (.inl rfl) .refl⟩
  ·have hop':=yaw hop;subst hop';have t45:=hI.tab.at (s:=85) (hdep ⟨45,.data⟩ (by simp) rfl) rfl rfl;have tg:=hI.tab.at (s:=83) (hdep ⟨43,.guard⟩ (by simp) rfl) rfl rfl;refine zal rm_xc rfl (zao (g:=43) (sl:=83) (b:=false) rfl rfl (congrArg some tg)) (by decide) rfl Try.func51 (by kernel_rfl) (by kernel_rfl) ?_;walk_nrm;show RM _ _ (G (Frame.enter Try.prog 51 #[x 85,.nilIface] .normal) _) w3;rw [t45];refine nil51 fun w4 L4=>?_;rw [Frame.finish_at];exact hnext (A10 (upd x 86 (.bool false))) w4 ⟨_,rfl,hI.put (i:=46) (by decide) (.inl rfl) L4⟩
  ·have hop':=yaw hop;subst hop';have t43:=hI.tab.at (s:=83) (hdep ⟨43,.data⟩ (by simp) rfl) rfl rfl;have t46:=hI.tab.at (s:=86) (hdep ⟨46,.data⟩ (by simp) rfl) rfl rfl;refine zau rfl rfl (by decide) (zaf (l:=[_]) (by kernel_rfl) _ (yaj.2 rfl)) (v := .bool false) (fun wp hp=>by
    unfold A10
    try unfold gpv opV zbu at *
    go_simp<;>rfl) ?_
   exact hnext (A10 (upd x 87 (.bool false))) w3 ⟨_,rfl,hI.put (i:=47) (by decide) (.inl rfl) .refl⟩
  ·have hop':=yaw hop;subst hop';have t47:=hI.tab.at (s:=87) (hdep ⟨47,.data⟩ (by simp) rfl) rfl rfl;refine zau rfl rfl (by decide) (zaf (l:=[_]) (by kernel_rfl) _ (yaj.2 rfl)) (v := .bool false) (fun wp hp=>by
    unfold A10
    try unfold gpv opV zbu at *
    go_simp<;>rfl) ?_
   exact hnext (A10 (upd x 88 (.bool false))) w3 ⟨_,rfl,hI.put (i:=48) (by decide) (.inl rfl) .refl⟩
  ·have hop':=yaw hop;subst hop';have tg:=hI.tab.at (s:=88) (hdep ⟨48,.guard⟩ (by simp) rfl) rfl rfl;refine zau rfl (zao (g:=48) (sl:=88) (b:=false) rfl rfl (congrArg some tg)) (by decide) (zaf (l:=[_]) (by kernel_rfl) _ (yaj.2 rfl)) (v := .pointer (some ⟨kn,1,none⟩)) (fun wp hp=>by
    unfold A10
    try unfold gpv opV zbu at *
    go_simp<;>rfl) ?_
   exact hnext (A10 (upd x 89 (.pointer (some ⟨kn,1,none⟩)))) w3 ⟨_,rfl,hI.put (i:=49) (by decide) (.inl rfl) .refl⟩
  ·have hop':=yaw hop;subst hop';have t49:=hI.tab.at (s:=89) (hdep ⟨49,.data⟩ (by simp) rfl) rfl rfl;have tg:=hI.tab.at (s:=88) (hdep ⟨48,.guard⟩ (by simp) rfl) rfl rfl;refine zau rfl (zao (g:=48) (sl:=88) (b:=false) rfl rfl (congrArg some tg)) (by decide) (zaf (l:=[_]) (by kernel_rfl) _ (yaj.2 rfl)) (v := .pointer none) (fun wp hp=>by
    have q_n1:=cc.out _ _ n1.out wp hp.heap;unfold A10
    try unfold gpv opV zbu at *
    go_simp<;>rfl) ?_
   exact hnext (A10 (upd x 90 (.pointer none))) w3 ⟨_,rfl,hI.put (i:=50) (by decide) (.inl rfl) .refl⟩
  ·have hop':=yaw hop;subst hop';have t50:=hI.tab.at (s:=90) (hdep ⟨50,.data⟩ (by simp) rfl) rfl rfl;have tg:=hI.tab.at (s:=88) (hdep ⟨48,.guard⟩ (by simp) rfl) rfl rfl;refine zal rm_xc rfl (zao (g:=48) (sl:=88) (b:=false) rfl rfl (congrArg some tg)) (by decide) rfl Try.func52 (by kernel_rfl) (by kernel_rfl) ?_;walk_nrm;show RM _ _ (G (Frame.enter Try.prog 52 #[x 90,.nilIface] .normal) _) w3;rw [t50];refine nil52 fun w4 L4=>?_;rw [Frame.finish_at];exact hnext (A10 (upd x 91 (.bool false))) w4 ⟨_,rfl,hI.put (i:=51) (by decide) (.inl rfl) L4⟩
  ·have hop':=yaw hop;subst hop';have t48:=hI.tab.at (s:=88) (hdep ⟨48,.data⟩ (by simp) rfl) rfl rfl;have t51:=hI.tab.at (s:=91) (hdep ⟨51,.data⟩ (by simp) rfl) rfl rfl;refine zau rfl rfl (by decide) (zaf (l:=[_]) (by kernel_rfl) _ (yaj.2 rfl)) (v := .bool false) (fun wp hp=>by
    unfold A10
    try unfold gpv opV zbu at *
    go_simp<;>rfl) ?_
   exact hnext (A10 (upd x 92 (.bool false))) w3 ⟨_,rfl,hI.put (i:=52) (by decide) (.inl rfl) .refl⟩
  ·have hop':=yaw hop;subst hop';have t52:=hI.tab.at (s:=92) (hdep ⟨52,.data⟩ (by simp) rfl) rfl rfl;refine zau rfl rfl (by decide) (zaf (l:=[_]) (by kernel_rfl) _ (yaj.2 rfl)) (v := .bool false) (fun wp hp=>by
    unfold A10
    try unfold gpv opV zbu at *
    go_simp<;>rfl) ?_
   exact hnext (A10 (upd x 93 (.bool false))) w3 ⟨_,rfl,hI.put (i:=53) (by decide) (.inl rfl) .refl⟩
  ·have hop':=yaw hop;subst hop';have tg:=hI.tab.at (s:=93) (hdep ⟨53,.guard⟩ (by simp) rfl) rfl rfl;refine zau rfl (zao (g:=53) (sl:=93) (b:=false) rfl rfl (congrArg some tg)) (by decide) (zaf (l:=[_]) (by kernel_rfl) _ (yaj.2 rfl)) (v := .pointer (some ⟨kn,2,none⟩)) (fun wp hp=>by
    unfold A10
    try unfold gpv opV zbu at *
    go_simp<;>rfl) ?_
   exact hnext (A10 (upd x 94 (.pointer (some ⟨kn,2,none⟩)))) w3 ⟨_,rfl,hI.put (i:=54) (by decide) (.inl rfl) .refl⟩
  ·have hop':=yaw hop;subst hop';have t54:=hI.tab.at (s:=94) (hdep ⟨54,.data⟩ (by simp) rfl) rfl rfl;have tg:=hI.tab.at (s:=93) (hdep ⟨53,.guard⟩ (by simp) rfl) rfl rfl;refine zau rfl (zao (g:=53) (sl:=93) (b:=false) rfl rfl (congrArg some tg)) (by decide) (zaf (l:=[_]) (by kernel_rfl) _ (yaj.2 rfl)) (v := .pointer none) (fun wp hp=>by
    have q_n2:=cc.out _ _ n2.out wp hp.heap;unfold A10
    try unfold gpv opV zbu at *
    go_simp<;>rfl) ?_
   exact hnext (A10 (upd x 95 (.pointer none))) w3 ⟨_,rfl,hI.put (i:=55) (by decide) (.inl rfl) .refl⟩
  ·have hop':=yaw hop;subst hop';have t55:=hI.tab.at (s:=95) (hdep ⟨55,.data⟩ (by simp) rfl) rfl rfl;have tg:=hI.tab.at (s:=93) (hdep ⟨53,.guard⟩ (by simp) rfl) rfl rfl;refine zal rm_xc rfl (zao (g:=53) (sl:=93) (b:=false) rfl rfl (congrArg some tg)) (by decide) rfl Try.func53 (by kernel_rfl) (by kernel_rfl) ?_;walk_nrm;show RM _ _ (G (Frame.enter Try.prog 53 #[x 95,.nilIface,.int .i64 3] .normal) _) w3;rw [t55];refine nil53 fun w4 L4=>?_;rw [Frame.finish_at];exact hnext (A10 (upd x 96 (.int .i64 0))) w4 ⟨_,rfl,hI.put (i:=56) (by decide) (.inl rfl) L4⟩
  ·have hop':=yaw hop;subst hop';have t56:=hI.tab.at (s:=96) (hdep ⟨56,.data⟩ (by simp) rfl) rfl rfl;have tg:=hI.tab.at (s:=93) (hdep ⟨53,.guard⟩ (by simp) rfl) rfl rfl;refine zau rfl (zao (g:=53) (sl:=93) (b:=false) rfl rfl (congrArg some tg)) (by decide) (zaf (l:=[_]) (by kernel_rfl) _ (yaj.2 rfl)) (v := .bool false) (fun wp hp=>by
    unfold A10
    try unfold gpv opV zbu at *
    go_simp<;>rfl) ?_
   exact hnext (A10 (upd x 97 (.bool false))) w3 ⟨_,rfl,hI.put (i:=57) (by decide) (.inl rfl) .refl⟩
  ·have hop':=yaw hop;subst hop';have t53:=hI.tab.at (s:=93) (hdep ⟨53,.data⟩ (by simp) rfl) rfl rfl;have t57:=hI.tab.at (s:=97) (hdep ⟨57,.data⟩ (by simp) rfl) rfl rfl;refine zau rfl rfl (by decide) (zaf (l:=[_]) (by kernel_rfl) _ (yaj.2 rfl)) (v := .bool false) (fun wp hp=>by
    unfold A10
    try unfold gpv opV zbu at *
    go_simp<;>rfl) ?_
   exact hnext (A10 (upd x 98 (.bool false))) w3 ⟨_,rfl,hI.put (i:=58) (by decide) (.inl rfl) .refl⟩
  ·have hop':=yaw hop;subst hop';have t58:=hI.tab.at (s:=98) (hdep ⟨58,.data⟩ (by simp) rfl) rfl rfl;refine zau rfl rfl (by decide) (zaf (l:=[_]) (by kernel_rfl) _ (yaj.2 rfl)) (v := .bool false) (fun wp hp=>by
    unfold A10
    try unfold gpv opV zbu at *
    go_simp<;>rfl) ?_
   exact hnext (A10 (upd x 99 (.bool false))) w3 ⟨_,rfl,hI.put (i:=59) (by decide) (.inl rfl) .refl⟩
  ·have hop':=yaw hop;subst hop';have tg:=hI.tab.at (s:=99) (hdep ⟨59,.guard⟩ (by simp) rfl) rfl rfl;refine zau rfl (zao (g:=59) (sl:=99) (b:=false) rfl rfl (congrArg some tg)) (by decide) (zaf (l:=[_]) (by kernel_rfl) _ (yaj.2 rfl)) (v := .pointer (some ⟨kn,2,none⟩)) (fun wp hp=>by
    unfold A10
    try unfold gpv opV zbu at *
    go_simp<;>rfl) ?_
   exact hnext (A10 (upd x 100 (.pointer (some ⟨kn,2,none⟩)))) w3 ⟨_,rfl,hI.put (i:=60) (by decide) (.inl rfl) .refl⟩
  ·have hop':=yaw hop;subst hop';have t60:=hI.tab.at (s:=100) (hdep ⟨60,.data⟩ (by simp) rfl) rfl rfl;have tg:=hI.tab.at (s:=99) (hdep ⟨59,.guard⟩ (by simp) rfl) rfl rfl;refine zau rfl (zao (g:=59) (sl:=99) (b:=false) rfl rfl (congrArg some tg)) (by decide) (zaf (l:=[_]) (by kernel_rfl) _ (yaj.2 rfl)) (v := .pointer none) (fun wp hp=>by
    have q_n2:=cc.out _ _ n2.out wp hp.heap;unfold A10
    try unfold gpv opV zbu at *
    go_simp<;>rfl) ?_
   exact hnext (A10 (upd x 101 (.pointer none))) w3 ⟨_,rfl,hI.put (i:=61) (by decide) (.inl rfl) .refl⟩
  ·have hop':=yaw hop;subst hop';have t61:=hI.tab.at (s:=101) (hdep ⟨61,.data⟩ (by simp) rfl) rfl rfl;have tg:=hI.tab.at (s:=99) (hdep ⟨59,.guard⟩ (by simp) rfl) rfl rfl;refine zal rm_xc rfl (zao (g:=59) (sl:=99) (b:=false) rfl rfl (congrArg some tg)) (by decide) rfl Try.func54 (by kernel_rfl) (by kernel_rfl) ?_;walk_nrm;show RM _ _ (G (Frame.enter Try.prog 54 #[x 101,.nilIface] .normal) _) w3;rw [t61];refine zux fun w4 L4=>?_;rw [Frame.finish_at];exact hnext (A10 (upd x 102 (.agg #[.pointer none,.pointer none]))) w4 ⟨_,rfl,hI.put (i:=62) (by decide) (.inl rfl) L4⟩
  ·have hop':=yaw hop;subst hop';have t62:=hI.tab.at (s:=102) (hdep ⟨62,.data⟩ (by simp) rfl) rfl rfl;have tg:=hI.tab.at (s:=99) (hdep ⟨59,.guard⟩ (by simp) rfl) rfl rfl;refine zal rm_xc rfl (zao (g:=59) (sl:=99) (b:=false) rfl rfl (congrArg some tg)) (by decide) rfl Try.func55 (by kernel_rfl) (by kernel_rfl) ?_;walk_nrm;show RM _ _ (G (Frame.enter Try.prog 55 #[x 102] .normal) _) w3;rw [t62];refine nil55 fun w4 L4=>?_;rw [Frame.finish_at];exact hnext (A10 (upd x 103 (.int .i64 0))) w4 ⟨_,rfl,hI.put (i:=63) (by decide) (.inl rfl) L4⟩
  ·have hop':=yaw hop;subst hop';have t63:=hI.tab.at (s:=103) (hdep ⟨63,.data⟩ (by simp) rfl) rfl rfl;have tg:=hI.tab.at (s:=99) (hdep ⟨59,.guard⟩ (by simp) rfl) rfl rfl;refine zau rfl (zao (g:=59) (sl:=99) (b:=false) rfl rfl (congrArg some tg)) (by decide) (zaf (l:=[_]) (by kernel_rfl) _ (yaj.2 rfl)) (v := .bool false) (fun wp hp=>by
    unfold A10
    try unfold gpv opV zbu at *
    go_simp<;>rfl) ?_
   exact hnext (A10 (upd x 104 (.bool false))) w3 ⟨_,rfl,hI.put (i:=64) (by decide) (.inl rfl) .refl⟩
  ·have hop':=yaw hop;subst hop';have t59:=hI.tab.at (s:=99) (hdep ⟨59,.data⟩ (by simp) rfl) rfl rfl;have t64:=hI.tab.at (s:=104) (hdep ⟨64,.data⟩ (by simp) rfl) rfl rfl;refine zau rfl rfl (by decide) (zaf (l:=[_]) (by kernel_rfl) _ (yaj.2 rfl)) (v := .bool false) (fun wp hp=>by
    unfold A10
    try unfold gpv opV zbu at *
    go_simp<;>rfl) ?_
   exact hnext (A10 (upd x 105 (.bool false))) w3 ⟨_,rfl,hI.put (i:=65) (by decide) (.inl rfl) .refl⟩
  ·have hop':=yaw hop;subst hop';have t65:=hI.tab.at (s:=105) (hdep ⟨65,.data⟩ (by simp) rfl) rfl rfl;refine zau rfl rfl (by decide) (zaf (l:=[_]) (by kernel_rfl) _ (yaj.2 rfl)) (v := .bool false) (fun wp hp=>by
    unfold A10
    try unfold gpv opV zbu at *
    go_simp<;>rfl) ?_
   exact hnext (A10 (upd x 106 (.bool false))) w3 ⟨_,rfl,hI.put (i:=66) (by decide) (.inl rfl) .refl⟩
  ·have hop':=yaw hop;subst hop';have tg:=hI.tab.at (s:=106) (hdep ⟨66,.guard⟩ (by simp) rfl) rfl rfl;refine zau rfl (zao (g:=66) (sl:=106) (b:=false) rfl rfl (congrArg some tg)) (by decide) (zaf (l:=[_]) (by kernel_rfl) _ (yaj.2 rfl)) (v := .pointer (some ⟨kn,2,none⟩)) (fun wp hp=>by
    unfold A10
    try unfold gpv opV zbu at *
    go_simp<;>rfl) ?_
   exact hnext (A10 (upd x 107 (.pointer (some ⟨kn,2,none⟩)))) w3 ⟨_,rfl,hI.put (i:=67) (by decide) (.inl rfl) .refl⟩
  ·have hop':=yaw hop;subst hop';have t67:=hI.tab.at (s:=107) (hdep ⟨67,.data⟩ (by simp) rfl) rfl rfl;have tg:=hI.tab.at (s:=106) (hdep ⟨66,.guard⟩ (by simp) rfl) rfl rfl;refine zau rfl (zao (g:=66) (sl:=106) (b:=false) rfl rfl (congrArg some tg)) (by decide) (zaf (l:=[_]) (by kernel_rfl) _ (yaj.2 rfl)) (v := .pointer none) (fun wp hp=>by
    have q_n2:=cc.out _ _ n2.out wp hp.heap;unfold A10
    try unfold gpv opV zbu at *
    go_simp<;>rfl) ?_
   exact hnext (A10 (upd x 108 (.pointer none))) w3 ⟨_,rfl,hI.put (i:=68) (by decide) (.inl rfl) .refl⟩
  ·have hop':=yaw hop;subst hop';have tg:=hI.tab.at (s:=106) (hdep ⟨66,.guard⟩ (by simp) rfl) rfl rfl;refine zau rfl (zao (g:=66) (sl:=106) (b:=false) rfl rfl (congrArg some tg)) (by decide) (zaf (l:=[_]) (by kernel_rfl) _ (yaj.2 rfl)) (v := .pointer (some ⟨kn,2,none⟩)) (fun wp hp=>by
    unfold A10
    try unfold gpv opV zbu at *
    go_simp<;>rfl) ?_
   exact hnext (A10 (upd x 109 (.pointer (some ⟨kn,2,none⟩)))) w3 ⟨_,rfl,hI.put (i:=69) (by decide) (.inl rfl) .refl⟩
  ·have hop':=yaw hop;subst hop';have t69:=hI.tab.at (s:=109) (hdep ⟨69,.data⟩ (by simp) rfl) rfl rfl;have tg:=hI.tab.at (s:=106) (hdep ⟨66,.guard⟩ (by simp) rfl) rfl rfl;refine zau rfl (zao (g:=66) (sl:=106) (b:=false) rfl rfl (congrArg some tg)) (by decide) (zaf (l:=[_]) (by kernel_rfl) _ (yaj.2 rfl)) (v := .pointer none) (fun wp hp=>by
    have q_n2:=cc.out _ _ n2.out wp hp.heap;unfold A10
    try unfold gpv opV zbu at *
    go_simp<;>rfl) ?_
   exact hnext (A10 (upd x 110 (.pointer none))) w3 ⟨_,rfl,hI.put (i:=70) (by decide) (.inl rfl) .refl⟩
  ·have hop':=yaw hop;subst hop';have t70:=hI.tab.at (s:=110) (hdep ⟨70,.data⟩ (by simp) rfl) rfl rfl;have tg:=hI.tab.at (s:=106) (hdep ⟨66,.guard⟩ (by simp) rfl) rfl rfl;refine zal rm_xc rfl (zao (g:=66) (sl:=106) (b:=false) rfl rfl (congrArg some tg)) (by decide) rfl Try.func54 (by kernel_rfl) (by kernel_rfl) ?_;walk_nrm;show RM _ _ (G (Frame.enter Try.prog 54 #[x 110,.nilIface] .normal) _) w3;rw [t70];refine zux fun w4 L4=>?_;rw [Frame.finish_at];exact hnext (A10 (upd x 111 (.agg #[.pointer none,.pointer none]))) w4 ⟨_,rfl,hI.put (i:=71) (by decide) (.inl rfl) L4⟩
  ·have hop':=yaw hop;subst hop';have t68:=hI.tab.at (s:=108) (hdep ⟨68,.data⟩ (by simp) rfl) rfl rfl;have t71:=hI.tab.at (s:=111) (hdep ⟨71,.data⟩ (by simp) rfl) rfl rfl;have tg:=hI.tab.at (s:=106) (hdep ⟨66,.guard⟩ (by simp) rfl) rfl rfl;refine zal rm_xc rfl (zao (g:=66) (sl:=106) (b:=false) rfl rfl (congrArg some tg)) (by decide) rfl Try.func56 (by kernel_rfl) (by kernel_rfl) ?_;walk_nrm;show RM _ _ (G (Frame.enter Try.prog 56 #[x 108,.nilIface,x 111,.int .i64 3] .normal) _) w3;rw [t68,t71];refine nil56 fun w4 L4=>?_;rw [Frame.finish_at];exact hnext (A10 (upd x 112 (.bool false))) w4 ⟨_,rfl,hI.put (i:=72) (by decide) (.inl rfl) L4⟩
  ·have hop':=yaw hop;subst hop';have t66:=hI.tab.at (s:=106) (hdep ⟨66,.data⟩ (by simp) rfl) rfl rfl;have t72:=hI.tab.at (s:=112) (hdep ⟨72,.data⟩ (by simp) rfl) rfl rfl;refine zau rfl rfl (by decide) (zaf (l:=[_]) (by kernel_rfl) _ (yaj.2 rfl)) (v := .bool false) (fun wp hp=>by
    unfold A10
    try unfold gpv opV zbu at *
    go_simp<;>rfl) ?_
   exact hnext (A10 (upd x 113 (.bool false))) w3 ⟨_,rfl,hI.put (i:=73) (by decide) (.inl rfl) .refl⟩
end
def tv19N (r:Ans) (a1 a2:Option Addr) (g1 g2 kz kf wa fa ba wb fb bb:Nat) (vW:Int) (vF:Bool) (vB:Int):Nat→Option Value
 | 0=>some (zbu r (.slice a1 0 g1))|2=>some (zbu r (.slice a2 0 g2))|4=>some (.bool true)|5=>some (.bool false)|6=>some (.bool false)|7=>some (.pointer (some ⟨kz,0,none⟩))|8=>some (gpv wa)|9=>some (.int .i64 vW)|10=>some (.pointer (some ⟨kf,0,none⟩))|11=>some (gpv wb)|12=>some (.int .i64 vW)|13=>some (.bool false)|14=>some (.bool false)|15=>some (.bool false)|16=>some (.pointer (some ⟨kz,1,none⟩))|17=>some (gpv fa)|18=>some (.bool vF)|19=>some (.pointer (some ⟨kf,1,none⟩))|20=>some (gpv fb)|21=>some (.bool vF)|22=>some (.bool false)|23=>some (.bool false)|24=>some (.bool false)|25=>some (.pointer (some ⟨kz,2,none⟩))|26=>some (gpv ba)|27=>some (.int .i64 vB)|28=>some (.pointer (some ⟨kf,2,none⟩))|29=>some (gpv bb)|30=>some (.int .i64 vB)|31=>some (.bool false)|32=>some (.bool false)
 | _=>none
structure J19 (W:World) (tv:Nat→Option Value) (r:Ans) (z:Nat→Value) (listed:Array Bool) (x:Nat→Value) (w:World):Prop where
 xs:∀ j,j < 15→x j=z j
 tab:Tab tv 163 listed x
 low:LeftW W w
 a:listed.getD 1 false=true→AnsIn w (x 164) [r]
 b:listed.getD 3 false=true→AnsIn w (x 166) [r]
section
variable {W w w':World} {tv:Nat→Option Value} {r:Ans} {z x:Nat→Value} {listed:Array Bool}
theorem J19.put' (h:J19 W tv r z listed x w) {i:Nat} {u:Value} (h1:i≠1) (h3:i≠3) (ht:tv i=some u) (l:LeftW w w'):J19 W tv r z (listed.setIfInBounds i true) (upd x (163+i) u) w' :=
 ⟨fun j hj=>by rw [upd_ne _ _ (by omega)];exact h.xs j hj,h.tab.put (.inl ht),h.low.trans l,
  fun q=>by rw [upd_ne _ _ (by omega)];exact (h.a (by rwa [za0 (by omega)] at q)).keep l.same,fun q=>by rw [upd_ne _ _ (by omega)];exact (h.b (by rwa [za0 (by omega)] at q)).keep l.same⟩
theorem J19.putA (h:J19 W tv r z listed x w) {i:Nat} {u:Value} (h1:i=1∨i=3) (ht:tv i=none) (ha:AnsIn w' u [r]) (l:LeftW w w'):J19 W tv r z (listed.setIfInBounds i true) (upd x (163+i) u) w':=by
 refine ⟨fun j hj=>by rw [upd_ne _ _ (by omega)];exact h.xs j hj,h.tab.put (.inr ht),h.low.trans l,fun q=>?_,fun q=>?_⟩
 ·by_cases e:i=1
  ·subst e;rw [upd_same];exact ha
  ·rw [upd_ne _ _ (by omega)];exact (h.a (by rwa [za0 (by omega)] at q)).keep l.same
 ·by_cases e:i=3
  ·subst e;rw [upd_same];exact ha
  ·rw [upd_ne _ _ (by omega)];exact (h.b (by rwa [za0 (by omega)] at q)).keep l.same
end
section
variable {Z:Machine→Trace→Prop} {cs:List Frame} {W:World} {r:Ans} {a1 a2:Option Addr} {g1 g2 k1 k2 kz kf wa fa ba wb fb bb:Nat} {vW vB:Int} {vF:Bool} {pA pB:Option Addr} {z:Nat→Value} {R:List Item}
theorem zqm (hl:r.l=[]) (z13:z 13 = .pointer (some ⟨k1,0,none⟩)) (z14:z 14 = .pointer (some ⟨k2,0,none⟩)) (z4:z 4 = .pointer (some ⟨kz,0,none⟩)) (z5:z 5 = .pointer (some ⟨kf,0,none⟩))
  (hK:W.heap[k1]?=some (ansE r a1 g1)) (hK':W.heap[k2]?=some (ansE r a2 g2))
  (kz0:W.cell? ⟨kz,0,none⟩=some (gpv wa)) (kz1:W.cell? ⟨kz,1,none⟩=some (gpv fa)) (kz2:W.cell? ⟨kz,2,none⟩=some (gpv ba)) (kf0:W.cell? ⟨kf,0,none⟩=some (gpv wb)) (kf1:W.cell? ⟨kf,1,none⟩=some (gpv fb)) (kf2:W.cell? ⟨kf,2,none⟩=some (gpv bb))
  (wA:W.cell? ⟨wa,0,none⟩=some (.int .i64 vW)) (fA:W.cell? ⟨fa,0,none⟩=some (.int .u32 (bit vF))) (bA:W.cell? ⟨ba,0,none⟩=some (.pointer pA)) (kA:KeptI W pA vB)
  (wB:W.cell? ⟨wb,0,none⟩=some (.int .i64 vW)) (fB:W.cell? ⟨fb,0,none⟩=some (.int .u32 (bit vF))) (bB:W.cell? ⟨bb,0,none⟩=some (.pointer pB)) (kB:KeptI W pB vB)
  (hret:∀ x w',(∀ j,j < 15→x j=z j)→x 195 = .bool false→LeftW W w'→RM Try.prog Z (G ((base 10).at (A10 x) R) cs) w') :
  RM Try.prog Z (G ((base 10).at (A10 z) (.code (cA (cB (cB (cB (cB (cB (cB (cB (cB inN)))))))))::R)) cs) W:=by
 have hr':=yay fun (x:Nat→Value) w' (h1:∀ j,j < 15→x j=z j) (h2:x 195 = .bool false) h3=>hret x w' h1 h2 h3;clear hret;unfold ansE at hK hK';have p0:=zac hK 0;have p1:=zac hK 1;have p2:=zac hK 2;have p3:=zac hK' 0;have p4:=zac hK' 1;have p5:=zac hK' 2;simp only [yac,yaa,yab] at p0 p1 p2 p3 p4 p5;clear hK hK';have hFF:(vF==vF)=true:=by cases vF<;>rfl
 have hFF2:(vF != vF)=false:=by cases vF<;>rfl
 rw [show cA (cB (cB (cB (cB (cB (cB (cB (cB inN))))))))=Code.region _ _ _ from rfl]
 refine ziw rfl (fun listed a w=>∃ x,a=A10 x∧J19 W (tv19N r a1 a2 g1 g2 kz kf wa fa ba wb fb bb vW vF vB) r z listed x w) ?i0 ?ie ?ist
 case i0=>exact ⟨z,rfl,fun _ _=>rfl,.zero,.refl,fun q=>(by rw [getD_replicate_false] at q;cases q),fun q=>(by rw [getD_replicate_false] at q;cases q)⟩
 case ie =>
  rintro listed a w hsz hrd ⟨x,rfl,hI⟩;have hall:=ze2 (zm9 (by kernel_rfl)) hsz hrd;refine zad rm_xc ?_;exact hr'.out x w hI.xs (hI.tab.at (s:=195) (hall 32 (by decide)) rfl rfl) hI.low
 case ist =>
  rintro listed i hsz hir a w3 rr ⟨x,rfl,hI⟩ hnext;obtain ⟨hun,op,hop,hdep⟩:=mem_ready.1 hir;have hi33:i < 33:=by
   have:=(yah.1 hop).1
   simpa using this
  have x4:=(hI.xs 4 (by decide)).trans z4;have x5:=(hI.xs 5 (by decide)).trans z5;have x13:=(hI.xs 13 (by decide)).trans z13;have x14:=(hI.xs 14 (by decide)).trans z14;have cc:Hid (∀ (a:Addr) v,W.cell? a=some v→∀ wp:World,wp.heap=w3.heap→wp.cell? a=some v):=yay fun a v q wp hp=>by
   refine (World.cell?_of_block (w:=W) ?_).trans q;show wp.heap[a.block]?=W.heap[a.block]?;rw [hp];exact hI.low.same _ (World.block_lt_of_cell? W _ q)
  have kkA:Hid (∀ W':World,W'.heap=w3.heap→KeptI W' pA vB):=yay fun W' hW=>kA.left fun b hb=>by rw [hW];exact hI.low.same b hb
  have kkB:Hid (∀ W':World,W'.heap=w3.heap→KeptI W' pB vB):=yay fun W' hW=>kB.left fun b hb=>by rw [hW];exact hI.low.same b hb
  replace p0:=yay p0;replace p1:=yay p1;replace p2:=yay p2;replace p3:=yay p3;replace p4:=yay p4;replace p5:=yay p5;replace kz0:=yay kz0;replace kz1:=yay kz1;replace kz2:=yay kz2;replace kf0:=yay kf0;replace kf1:=yay kf1;replace kf2:=yay kf2;replace wA:=yay wA;replace fA:=yay fA;replace bA:=yay bA;replace kA:=yay kA;replace wB:=yay wB;replace fB:=yay fB;replace bB:=yay bB;replace kB:=yay kB;have hcase:i=0∨i=1∨i=2∨i=3∨i=4∨i=5∨i=6∨i=7∨i=8∨i=9∨i=10∨i=11∨i=12∨i=13∨i=14∨i=15∨i=16∨i=17∨i=18∨i=19∨i=20∨i=21∨i=22∨i=23∨i=24∨i=25∨i=26∨i=27∨i=28∨i=29∨i=30∨i=31∨i=32:=by omega
  rcases hcase with rfl|rfl|rfl|rfl|rfl|rfl|rfl|rfl|rfl|rfl|rfl|rfl|rfl|rfl|rfl|rfl|rfl|rfl|rfl|rfl|rfl|rfl|rfl|rfl|rfl|rfl|rfl|rfl|rfl|rfl|rfl|rfl|rfl
  ·refine zau rfl rfl (by decide) (zaf (l:=[_]) (by kernel_rfl) _ (yaj.2 rfl)) (v:=zbu r (.slice a1 0 g1)) (fun wp hp=>by
    have q_p0:=cc.out _ _ p0.out wp hp.heap;have q_p1:=cc.out _ _ p1.out wp hp.heap;have q_p2:=cc.out _ _ p2.out wp hp.heap;unfold A10
    try unfold gpv opV zbu at *
    go_simp<;>rfl) ?_
   exact hnext (A10 (upd x 163 (zbu r (.slice a1 0 g1)))) w3 ⟨_,rfl,hI.put' (i:=0) (by decide) (by decide) rfl .refl⟩
  ·have hop':=yaw hop;subst hop';have t0:=hI.tab.at (s:=163) (hdep ⟨0,.data⟩ (by simp) rfl) rfl rfl;refine zv2 rfl rfl (by decide) (zaf (l:=[_]) (by kernel_rfl) _ (yaj.2 rfl)) (v := .slice (some ⟨w3.heap.size,0,none⟩) 1 1) (w2:=w3.alloc (.cells #[.bool r.ok,.int .i64 r.n,.slice a1 0 g1] 42)) (by
    unfold A10;unfold zbu at *
    go_simp<;>rfl) rfl fun w4 h4=>?_
   have L4:LeftW w3 w4:=(LeftW.refl.alloc _).sim h4;have hnew:w4.heap[w3.heap.size]?=some (.cells #[.bool r.ok,.int .i64 r.n,.slice a1 0 g1] 42 (0,0)):=by rw [h4.heap];exact heap_alloc_new _ _
   refine hnext (A10 (upd x 164 (.slice (some ⟨w3.heap.size,0,none⟩) 1 1))) w4 ⟨_,rfl,hI.putA (i:=1) (by decide) rfl (znq (r:=r) hnew (by rw [hl];exact ⟨_,_,rfl,fun h=>absurd rfl h⟩)) L4⟩
  ·refine zau rfl rfl (by decide) (zaf (l:=[_]) (by kernel_rfl) _ (yaj.2 rfl)) (v:=zbu r (.slice a2 0 g2)) (fun wp hp=>by
    have q_p3:=cc.out _ _ p3.out wp hp.heap;have q_p4:=cc.out _ _ p4.out wp hp.heap;have q_p5:=cc.out _ _ p5.out wp hp.heap;unfold A10
    try unfold gpv opV zbu at *
    go_simp<;>rfl) ?_
   exact hnext (A10 (upd x 165 (zbu r (.slice a2 0 g2)))) w3 ⟨_,rfl,hI.put' (i:=2) (by decide) (by decide) rfl .refl⟩
  ·have hop':=yaw hop;subst hop';have t2:=hI.tab.at (s:=165) (hdep ⟨2,.data⟩ (by simp) rfl) rfl rfl;refine zv2 rfl rfl (by decide) (zaf (l:=[_]) (by kernel_rfl) _ (yaj.2 rfl)) (v := .slice (some ⟨w3.heap.size,0,none⟩) 1 1) (w2:=w3.alloc (.cells #[.bool r.ok,.int .i64 r.n,.slice a2 0 g2] 42)) (by
    unfold A10;unfold zbu at *
    go_simp<;>rfl) rfl fun w4 h4=>?_
   have L4:LeftW w3 w4:=(LeftW.refl.alloc _).sim h4;have hnew:w4.heap[w3.heap.size]?=some (.cells #[.bool r.ok,.int .i64 r.n,.slice a2 0 g2] 42 (0,0)):=by rw [h4.heap];exact heap_alloc_new _ _
   refine hnext (A10 (upd x 166 (.slice (some ⟨w3.heap.size,0,none⟩) 1 1))) w4 ⟨_,rfl,hI.putA (i:=3) (by decide) rfl (znq (r:=r) hnew (by rw [hl];exact ⟨_,_,rfl,fun h=>absurd rfl h⟩)) L4⟩
  ·have hop':=yaw hop;subst hop';have d1:listed.getD 1 false=true:=hdep ⟨1,.data⟩ (by simp) rfl;have d3:listed.getD 3 false=true:=hdep ⟨3,.data⟩ (by simp) rfl;refine zal rm_xc rfl rfl (by decide) rfl Try.func22 (by kernel_rfl) (by kernel_rfl) ?_;walk_nrm;show RM _ _ (G (Frame.enter Try.prog 22 #[x 164,x 166] .normal) _) w3;refine zql (l:=[r]) (fun q hq=>by rw [show q=r by simpa using hq,hl];decide) (hI.a d1) (hI.b d3) (by simp) fun w4 L4=>?_;rw [Frame.finish_at];exact hnext (A10 (upd x 167 (.bool true))) w4 ⟨_,rfl,hI.put' (i:=4) (by decide) (by decide) rfl L4⟩
  ·have hop':=yaw hop;subst hop';have t4:=hI.tab.at (s:=167) (hdep ⟨4,.data⟩ (by simp) rfl) rfl rfl;refine zau rfl rfl (by decide) (zaf (l:=[_]) (by kernel_rfl) _ (yaj.2 rfl)) (v := .bool false) (fun wp hp=>by
    unfold A10
    try unfold gpv opV zbu at *
    go_simp<;>rfl) ?_
   exact hnext (A10 (upd x 168 (.bool false))) w3 ⟨_,rfl,hI.put' (i:=5) (by decide) (by decide) rfl .refl⟩
  ·have hop':=yaw hop;subst hop';have t5:=hI.tab.at (s:=168) (hdep ⟨5,.data⟩ (by simp) rfl) rfl rfl;refine zau rfl rfl (by decide) (zaf (l:=[_]) (by kernel_rfl) _ (yaj.2 rfl)) (v := .bool false) (fun wp hp=>by
    unfold A10
    try unfold gpv opV zbu at *
    go_simp<;>rfl) ?_
   exact hnext (A10 (upd x 169 (.bool false))) w3 ⟨_,rfl,hI.put' (i:=6) (by decide) (by decide) rfl .refl⟩
  ·have hop':=yaw hop;subst hop';have tg:=hI.tab.at (s:=169) (hdep ⟨6,.guard⟩ (by simp) rfl) rfl rfl;refine zau rfl (zao (g:=6) (sl:=169) (b:=false) rfl rfl (congrArg some tg)) (by decide) (zaf (l:=[_]) (by kernel_rfl) _ (yaj.2 rfl)) (v := .pointer (some ⟨kz,0,none⟩)) (fun wp hp=>by
    unfold A10
    try unfold gpv opV zbu at *
    go_simp<;>rfl) ?_
   exact hnext (A10 (upd x 170 (.pointer (some ⟨kz,0,none⟩)))) w3 ⟨_,rfl,hI.put' (i:=7) (by decide) (by decide) rfl .refl⟩
  ·have hop':=yaw hop;subst hop';have t7:=hI.tab.at (s:=170) (hdep ⟨7,.data⟩ (by simp) rfl) rfl rfl;have tg:=hI.tab.at (s:=169) (hdep ⟨6,.guard⟩ (by simp) rfl) rfl rfl;refine zau rfl (zao (g:=6) (sl:=169) (b:=false) rfl rfl (congrArg some tg)) (by decide) (zaf (l:=[_]) (by kernel_rfl) _ (yaj.2 rfl)) (v:=gpv wa) (fun wp hp=>by
    have q_kz0:=cc.out _ _ kz0.out wp hp.heap;unfold A10
    try unfold gpv opV zbu at *
    go_simp<;>rfl) ?_
   exact hnext (A10 (upd x 171 (gpv wa))) w3 ⟨_,rfl,hI.put' (i:=8) (by decide) (by decide) rfl .refl⟩
  ·have hop':=yaw hop;subst hop';have t8:=hI.tab.at (s:=171) (hdep ⟨8,.data⟩ (by simp) rfl) rfl rfl;have tg:=hI.tab.at (s:=169) (hdep ⟨6,.guard⟩ (by simp) rfl) rfl rfl;refine zal rm_xc rfl (zao (g:=6) (sl:=169) (b:=false) rfl rfl (congrArg some tg)) (by decide) rfl Try.func37 (by kernel_rfl) (by kernel_rfl) ?_;walk_nrm;show RM _ _ (G (Frame.enter Try.prog 37 #[x 171] .normal) _) w3;rw [t8];refine zdh (v := .int .i64 vW) (by decide) (fun W' hW=>zdn wa vW W' (cc.out _ _ wA.out W' hW)) fun w4 L4=>?_;rw [Frame.finish_at];exact hnext (A10 (upd x 172 (.int .i64 vW))) w4 ⟨_,rfl,hI.put' (i:=9) (by decide) (by decide) rfl L4⟩
  ·have hop':=yaw hop;subst hop';have tg:=hI.tab.at (s:=169) (hdep ⟨6,.guard⟩ (by simp) rfl) rfl rfl;refine zau rfl (zao (g:=6) (sl:=169) (b:=false) rfl rfl (congrArg some tg)) (by decide) (zaf (l:=[_]) (by kernel_rfl) _ (yaj.2 rfl)) (v := .pointer (some ⟨kf,0,none⟩)) (fun wp hp=>by
    unfold A10
    try unfold gpv opV zbu at *
    go_simp<;>rfl) ?_
   exact hnext (A10 (upd x 173 (.pointer (some ⟨kf,0,none⟩)))) w3 ⟨_,rfl,hI.put' (i:=10) (by decide) (by decide) rfl .refl⟩
  ·have hop':=yaw hop;subst hop';have t10:=hI.tab.at (s:=173) (hdep ⟨10,.data⟩ (by simp) rfl) rfl rfl;have tg:=hI.tab.at (s:=169) (hdep ⟨6,.guard⟩ (by simp) rfl) rfl rfl;refine zau rfl (zao (g:=6) (sl:=169) (b:=false) rfl rfl (congrArg some tg)) (by decide) (zaf (l:=[_]) (by kernel_rfl) _ (yaj.2 rfl)) (v:=gpv wb) (fun wp hp=>by
    have q_kf0:=cc.out _ _ kf0.out wp hp.heap;unfold A10
    try unfold gpv opV zbu at *
    go_simp<;>rfl) ?_
   exact hnext (A10 (upd x 174 (gpv wb))) w3 ⟨_,rfl,hI.put' (i:=11) (by decide) (by decide) rfl .refl⟩
  ·have hop':=yaw hop;subst hop';have t11:=hI.tab.at (s:=174) (hdep ⟨11,.data⟩ (by simp) rfl) rfl rfl;have tg:=hI.tab.at (s:=169) (hdep ⟨6,.guard⟩ (by simp) rfl) rfl rfl;refine zal rm_xc rfl (zao (g:=6) (sl:=169) (b:=false) rfl rfl (congrArg some tg)) (by decide) rfl Try.func37 (by kernel_rfl) (by kernel_rfl) ?_;walk_nrm;show RM _ _ (G (Frame.enter Try.prog 37 #[x 174] .normal) _) w3;rw [t11];refine zdh (v := .int .i64 vW) (by decide) (fun W' hW=>zdn wb vW W' (cc.out _ _ wB.out W' hW)) fun w4 L4=>?_;rw [Frame.finish_at];exact hnext (A10 (upd x 175 (.int .i64 vW))) w4 ⟨_,rfl,hI.put' (i:=12) (by decide) (by decide) rfl L4⟩
  ·have hop':=yaw hop;subst hop';have t9:=hI.tab.at (s:=172) (hdep ⟨9,.data⟩ (by simp) rfl) rfl rfl;have t12:=hI.tab.at (s:=175) (hdep ⟨12,.data⟩ (by simp) rfl) rfl rfl;have tg:=hI.tab.at (s:=169) (hdep ⟨6,.guard⟩ (by simp) rfl) rfl rfl;refine zau rfl (zao (g:=6) (sl:=169) (b:=false) rfl rfl (congrArg some tg)) (by decide) (zaf (l:=[_]) (by kernel_rfl) _ (yaj.2 rfl)) (v := .bool false) (fun wp hp=>by
    unfold A10
    try unfold gpv opV zbu at *
    go_simp<;>rfl) ?_
   exact hnext (A10 (upd x 176 (.bool false))) w3 ⟨_,rfl,hI.put' (i:=13) (by decide) (by decide) rfl .refl⟩
  ·have hop':=yaw hop;subst hop';have t6:=hI.tab.at (s:=169) (hdep ⟨6,.data⟩ (by simp) rfl) rfl rfl;have t13:=hI.tab.at (s:=176) (hdep ⟨13,.data⟩ (by simp) rfl) rfl rfl;refine zau rfl rfl (by decide) (zaf (l:=[_]) (by kernel_rfl) _ (yaj.2 rfl)) (v := .bool false) (fun wp hp=>by
    unfold A10
    try unfold gpv opV zbu at *
    go_simp<;>rfl) ?_
   exact hnext (A10 (upd x 177 (.bool false))) w3 ⟨_,rfl,hI.put' (i:=14) (by decide) (by decide) rfl .refl⟩
  ·have hop':=yaw hop;subst hop';have t14:=hI.tab.at (s:=177) (hdep ⟨14,.data⟩ (by simp) rfl) rfl rfl;refine zau rfl rfl (by decide) (zaf (l:=[_]) (by kernel_rfl) _ (yaj.2 rfl)) (v := .bool false) (fun wp hp=>by
    unfold A10
    try unfold gpv opV zbu at *
    go_simp<;>rfl) ?_
   exact hnext (A10 (upd x 178 (.bool false))) w3 ⟨_,rfl,hI.put' (i:=15) (by decide) (by decide) rfl .refl⟩
  ·have hop':=yaw hop;subst hop';have tg:=hI.tab.at (s:=178) (hdep ⟨15,.guard⟩ (by simp) rfl) rfl rfl;refine zau rfl (zao (g:=15) (sl:=178) (b:=false) rfl rfl (congrArg some tg)) (by decide) (zaf (l:=[_]) (by kernel_rfl) _ (yaj.2 rfl)) (v := .pointer (some ⟨kz,1,none⟩)) (fun wp hp=>by
    unfold A10
    try unfold gpv opV zbu at *
    go_simp<;>rfl) ?_
   exact hnext (A10 (upd x 179 (.pointer (some ⟨kz,1,none⟩)))) w3 ⟨_,rfl,hI.put' (i:=16) (by decide) (by decide) rfl .refl⟩
  ·have hop':=yaw hop;subst hop';have t16:=hI.tab.at (s:=179) (hdep ⟨16,.data⟩ (by simp) rfl) rfl rfl;have tg:=hI.tab.at (s:=178) (hdep ⟨15,.guard⟩ (by simp) rfl) rfl rfl;refine zau rfl (zao (g:=15) (sl:=178) (b:=false) rfl rfl (congrArg some tg)) (by decide) (zaf (l:=[_]) (by kernel_rfl) _ (yaj.2 rfl)) (v:=gpv fa) (fun wp hp=>by
    have q_kz1:=cc.out _ _ kz1.out wp hp.heap;unfold A10
    try unfold gpv opV zbu at *
    go_simp<;>rfl) ?_
   exact hnext (A10 (upd x 180 (gpv fa))) w3 ⟨_,rfl,hI.put' (i:=17) (by decide) (by decide) rfl .refl⟩
  ·have hop':=yaw hop;subst hop';have t17:=hI.tab.at (s:=180) (hdep ⟨17,.data⟩ (by simp) rfl) rfl rfl;have tg:=hI.tab.at (s:=178) (hdep ⟨15,.guard⟩ (by simp) rfl) rfl rfl;refine zal rm_xc rfl (zao (g:=15) (sl:=178) (b:=false) rfl rfl (congrArg some tg)) (by decide) rfl Try.func36 (by kernel_rfl) (by kernel_rfl) ?_;walk_nrm;show RM _ _ (G (Frame.enter Try.prog 36 #[x 180] .normal) _) w3;rw [t17];refine zdh (v := .bool vF) (by decide) (fun W' hW=>zep fa vF W' (cc.out _ _ fA.out W' hW)) fun w4 L4=>?_;rw [Frame.finish_at];exact hnext (A10 (upd x 181 (.bool vF))) w4 ⟨_,rfl,hI.put' (i:=18) (by decide) (by decide) rfl L4⟩
  ·have hop':=yaw hop;subst hop';have tg:=hI.tab.at (s:=178) (hdep ⟨15,.guard⟩ (by simp) rfl) rfl rfl;refine zau rfl (zao (g:=15) (sl:=178) (b:=false) rfl rfl (congrArg some tg)) (by decide) (zaf (l:=[_]) (by kernel_rfl) _ (yaj.2 rfl)) (v := .pointer (some ⟨kf,1,none⟩)) (fun wp hp=>by
    unfold A10
    try unfold gpv opV zbu at *
    go_simp<;>rfl) ?_
   exact hnext (A10 (upd x 182 (.pointer (some ⟨kf,1,none⟩)))) w3 ⟨_,rfl,hI.put' (i:=19) (by decide) (by decide) rfl .refl⟩
  ·have hop':=yaw hop;subst hop';have t19:=hI.tab.at (s:=182) (hdep ⟨19,.data⟩ (by simp) rfl) rfl rfl;have tg:=hI.tab.at (s:=178) (hdep ⟨15,.guard⟩ (by simp) rfl) rfl rfl;refine zau rfl (zao (g:=15) (sl:=178) (b:=false) rfl rfl (congrArg some tg)) (by decide) (zaf (l:=[_]) (by kernel_rfl) _ (yaj.2 rfl)) (v:=gpv fb) (fun wp hp=>by
    have q_kf1:=cc.out _ _ kf1.out wp hp.heap;unfold A10
    try unfold gpv opV zbu at *
    go_simp<;>rfl) ?_
   exact hnext (A10 (upd x 183 (gpv fb))) w3 ⟨_,rfl,hI.put' (i:=20) (by decide) (by decide) rfl .refl⟩
  ·have hop':=yaw hop;subst hop';have t20:=hI.tab.at (s:=183) (hdep ⟨20,.data⟩ (by simp) rfl) rfl rfl;have tg:=hI.tab.at (s:=178) (hdep ⟨15,.guard⟩ (by simp) rfl) rfl rfl;refine zal rm_xc rfl (zao (g:=15) (sl:=178) (b:=false) rfl rfl (congrArg some tg)) (by decide) rfl Try.func36 (by kernel_rfl) (by kernel_rfl) ?_;walk_nrm;show RM _ _ (G (Frame.enter Try.prog 36 #[x 183] .normal) _) w3;rw [t20];refine zdh (v := .bool vF) (by decide) (fun W' hW=>zep fb vF W' (cc.out _ _ fB.out W' hW)) fun w4 L4=>?_;rw [Frame.finish_at];exact hnext (A10 (upd x 184 (.bool vF))) w4 ⟨_,rfl,hI.put' (i:=21) (by decide) (by decide) rfl L4⟩
  ·have hop':=yaw hop;subst hop';have t18:=hI.tab.at (s:=181) (hdep ⟨18,.data⟩ (by simp) rfl) rfl rfl;have t21:=hI.tab.at (s:=184) (hdep ⟨21,.data⟩ (by simp) rfl) rfl rfl;have tg:=hI.tab.at (s:=178) (hdep ⟨15,.guard⟩ (by simp) rfl) rfl rfl;refine zau rfl (zao (g:=15) (sl:=178) (b:=false) rfl rfl (congrArg some tg)) (by decide) (zaf (l:=[_]) (by kernel_rfl) _ (yaj.2 rfl)) (v := .bool false) (fun wp hp=>by
    unfold A10
    try unfold gpv opV zbu at *
    go_simp<;>rfl) ?_
   exact hnext (A10 (upd x 185 (.bool false))) w3 ⟨_,rfl,hI.put' (i:=22) (by decide) (by decide) rfl .refl⟩
  ·have hop':=yaw hop;subst hop';have t15:=hI.tab.at (s:=178) (hdep ⟨15,.data⟩ (by simp) rfl) rfl rfl;have t22:=hI.tab.at (s:=185) (hdep ⟨22,.data⟩ (by simp) rfl) rfl rfl;refine zau rfl rfl (by decide) (zaf (l:=[_]) (by kernel_rfl) _ (yaj.2 rfl)) (v := .bool false) (fun wp hp=>by
    unfold A10
    try unfold gpv opV zbu at *
    go_simp<;>rfl) ?_
   exact hnext (A10 (upd x 186 (.bool false))) w3 ⟨_,rfl,hI.put' (i:=23) (by decide) (by decide) rfl .refl⟩
  ·have hop':=yaw hop;subst hop';have t23:=hI.tab.at (s:=186) (hdep ⟨23,.data⟩ (by simp) rfl) rfl rfl;refine zau rfl rfl (by decide) (zaf (l:=[_]) (by kernel_rfl) _ (yaj.2 rfl)) (v := .bool false) (fun wp hp=>by
    unfold A10
    try unfold gpv opV zbu at *
    go_simp<;>rfl) ?_
   exact hnext (A10 (upd x 187 (.bool false))) w3 ⟨_,rfl,hI.put' (i:=24) (by decide) (by decide) rfl .refl⟩
  ·have hop':=yaw hop;subst hop';have tg:=hI.tab.at (s:=187) (hdep ⟨24,.guard⟩ (by simp) rfl) rfl rfl;refine zau rfl (zao (g:=24) (sl:=187) (b:=false) rfl rfl (congrArg some tg)) (by decide) (zaf (l:=[_]) (by kernel_rfl) _ (yaj.2 rfl)) (v := .pointer (some ⟨kz,2,none⟩)) (fun wp hp=>by
    unfold A10
    try unfold gpv opV zbu at *
    go_simp<;>rfl) ?_
   exact hnext (A10 (upd x 188 (.pointer (some ⟨kz,2,none⟩)))) w3 ⟨_,rfl,hI.put' (i:=25) (by decide) (by decide) rfl .refl⟩
  ·have hop':=yaw hop;subst hop';have t25:=hI.tab.at (s:=188) (hdep ⟨25,.data⟩ (by simp) rfl) rfl rfl;have tg:=hI.tab.at (s:=187) (hdep ⟨24,.guard⟩ (by simp) rfl) rfl rfl;refine zau rfl (zao (g:=24) (sl:=187) (b:=false) rfl rfl (congrArg some tg)) (by decide) (zaf (l:=[_]) (by kernel_rfl) _ (yaj.2 rfl)) (v:=gpv ba) (fun wp hp=>by
    have q_kz2:=cc.out _ _ kz2.out wp hp.heap;unfold A10
    try unfold gpv opV zbu at *
    go_simp<;>rfl) ?_
   exact hnext (A10 (upd x 189 (gpv ba))) w3 ⟨_,rfl,hI.put' (i:=26) (by decide) (by decide) rfl .refl⟩
  ·have hop':=yaw hop;subst hop';have t26:=hI.tab.at (s:=189) (hdep ⟨26,.data⟩ (by simp) rfl) rfl rfl;have tg:=hI.tab.at (s:=187) (hdep ⟨24,.guard⟩ (by simp) rfl) rfl rfl;refine zal rm_xc rfl (zao (g:=24) (sl:=187) (b:=false) rfl rfl (congrArg some tg)) (by decide) rfl Try.func38 (by kernel_rfl) (by kernel_rfl) ?_;walk_nrm;show RM _ _ (G (Frame.enter Try.prog 38 #[x 189] .normal) _) w3;rw [t26];refine zdh (v := .int .i64 vB) (by decide) (fun W' hW=>zfg ba W' (cc.out _ _ bA.out W' hW) (kkA.out W' hW)) fun w4 L4=>?_;rw [Frame.finish_at];exact hnext (A10 (upd x 190 (.int .i64 vB))) w4 ⟨_,rfl,hI.put' (i:=27) (by decide) (by decide) rfl L4⟩
  ·have hop':=yaw hop;subst hop';have tg:=hI.tab.at (s:=187) (hdep ⟨24,.guard⟩ (by simp) rfl) rfl rfl;refine zau rfl (zao (g:=24) (sl:=187) (b:=false) rfl rfl (congrArg some tg)) (by decide) (zaf (l:=[_]) (by kernel_rfl) _ (yaj.2 rfl)) (v := .pointer (some ⟨kf,2,none⟩)) (fun wp hp=>by
    unfold A10
    try unfold gpv opV zbu at *
    go_simp<;>rfl) ?_
   exact hnext (A10 (upd x 191 (.pointer (some ⟨kf,2,none⟩)))) w3 ⟨_,rfl,hI.put' (i:=28) (by decide) (by decide) rfl .refl⟩
  ·have hop':=yaw hop;subst hop';have t28:=hI.tab.at (s:=191) (hdep ⟨28,.data⟩ (by simp) rfl) rfl rfl;have tg:=hI.tab.at (s:=187) (hdep ⟨24,.guard⟩ (by simp) rfl) rfl rfl;refine zau rfl (zao (g:=24) (sl:=187) (b:=false) rfl rfl (congrArg some tg)) (by decide) (zaf (l:=[_]) (by kernel_rfl) _ (yaj.2 rfl)) (v:=gpv bb) (fun wp hp=>by
    have q_kf2:=cc.out _ _ kf2.out wp hp.heap;unfold A10
    try unfold gpv opV zbu at *
    go_simp<;>rfl) ?_
   exact hnext (A10 (upd x 192 (gpv bb))) w3 ⟨_,rfl,hI.put' (i:=29) (by decide) (by decide) rfl .refl⟩
  ·have hop':=yaw hop;subst hop';have t29:=hI.tab.at (s:=192) (hdep ⟨29,.data⟩ (by simp) rfl) rfl rfl;have tg:=hI.tab.at (s:=187) (hdep ⟨24,.guard⟩ (by simp) rfl) rfl rfl;refine zal rm_xc rfl (zao (g:=24) (sl:=187) (b:=false) rfl rfl (congrArg some tg)) (by decide) rfl Try.func38 (by kernel_rfl) (by kernel_rfl) ?_;walk_nrm;show RM _ _ (G (Frame.enter Try.prog 38 #[x 192] .normal) _) w3;rw [t29];refine zdh (v := .int .i64 vB) (by decide) (fun W' hW=>zfg bb W' (cc.out _ _ bB.out W' hW) (kkB.out W' hW)) fun w4 L4=>?_;rw [Frame.finish_at];exact hnext (A10 (upd x 193 (.int .i64 vB))) w4 ⟨_,rfl,hI.put' (i:=30) (by decide) (by decide) rfl L4⟩
  ·have hop':=yaw hop;subst hop';have t27:=hI.tab.at (s:=190) (hdep ⟨27,.data⟩ (by simp) rfl) rfl rfl;have t30:=hI.tab.at (s:=193) (hdep ⟨30,.data⟩ (by simp) rfl) rfl rfl;have tg:=hI.tab.at (s:=187) (hdep ⟨24,.guard⟩ (by simp) rfl) rfl rfl;refine zau rfl (zao (g:=24) (sl:=187) (b:=false) rfl rfl (congrArg some tg)) (by decide) (zaf (l:=[_]) (by kernel_rfl) _ (yaj.2 rfl)) (v := .bool false) (fun wp hp=>by
    unfold A10
    try unfold gpv opV zbu at *
    go_simp<;>rfl) ?_
   exact hnext (A10 (upd x 194 (.bool false))) w3 ⟨_,rfl,hI.put' (i:=31) (by decide) (by decide) rfl .refl⟩
  ·have hop':=yaw hop;subst hop';have t24:=hI.tab.at (s:=187) (hdep ⟨24,.data⟩ (by simp) rfl) rfl rfl;have t31:=hI.tab.at (s:=194) (hdep ⟨31,.data⟩ (by simp) rfl) rfl rfl;refine zau rfl rfl (by decide) (zaf (l:=[_]) (by kernel_rfl) _ (yaj.2 rfl)) (v := .bool false) (fun wp hp=>by
    unfold A10
    try unfold gpv opV zbu at *
    go_simp<;>rfl) ?_
   exact hnext (A10 (upd x 195 (.bool false))) w3 ⟨_,rfl,hI.put' (i:=32) (by decide) (by decide) rfl .refl⟩
end
def nilO:Obj := .cells #[.pointer none,.pointer none,.pointer none] 80 (0,0)
structure Y10 (va:Value) (kn kz kf j:Nat) (x:Nat→Value):Prop where
 x0:x 0=va
 x3:x 3 = .pointer (some ⟨kn,0,none⟩)
 x4:x 4 = .pointer (some ⟨kz,0,none⟩)
 x5:x 5 = .pointer (some ⟨kf,0,none⟩)
 x6:x 6 = .int .i64 j
theorem Y10.of {va:Value} {kn kz kf j:Nat} {x y:Nat→Value} (h:Y10 va kn kz kf j x) (e:∀ j,j < 7→y j=x j):Y10 va kn kz kf j y :=
 ⟨(e 0 (by decide)).trans h.x0,(e 3 (by decide)).trans h.x3,(e 4 (by decide)).trans h.x4,(e 5 (by decide)).trans h.x5,(e 6 (by decide)).trans h.x6⟩
section
variable {Z:Machine→Trace→Prop} {cs:List Frame} {w0:World} {P:P8} {X:List (Nat×Obj)} {kn kz kf cap:Nat} {ao:Option Addr} {L:List OpD} {R:List Item}
theorem zsi (hops:OpsIn w0 ao L.length cap L) (hL:L.length≤9223372036854775807) (hkn:(kn,nilO)∈X) (hkz:(kz,thO P.wa P.fa P.ba)∈X) (hkf:(kf,thO P.wb P.fb P.bb)∈X)
  (hret:∀ x sz sw oz ow w,Y10 (.slice ao L.length cap) kn kz kf L.length x→KF P X w0 sz sw oz ow w→RM Try.prog Z (G ((base 10).at (A10 x) R) cs) w) :
  ∀ (k j:Nat),j+k=L.length→∀ x sz sw oz ow w,Eq3 sz sw→Y10 (.slice ao L.length cap) kn kz kf j x→KF P X w0 sz sw oz ow w→RM Try.prog Z (G ((base 10).at (A10 x) (.code zjw :: .inLoop zjw :: .inBlock 0::R)) cs) w:=by
 intro k
 induction k with
 | zero =>
  intro j hj x sz sw oz ow w hE0 hx I;obtain rfl:j=L.length:=by omega
  obtain ⟨n,hn⟩:∃ n,L.length=n:=⟨_,rfl⟩;have hret':=yay fun x sz sw oz ow w h I=>hret x sz sw oz ow w h I;rw [hn] at hx hL;clear hret hops hj;have hlt':¬ (n:Int) < (n:Int):=by omega
  replace hn:=yay hn;refine zan rm_xc rfl fun R0 hR0=>?_;rw [show cA zjw=Code.seq _ _ from rfl]
  unfold A10;simp only [hx.x0,hx.x3,hx.x4,hx.x5,hx.x6];refine zah rm_xc fun R1 hR1=>?_;refine zav zct (zab zae (by kernel_rfl)) rfl (zaa Try.func10) rfl fun wp hp=>?_;replace hp:=yay hp
  go_wp2_with fail
  refine fun w1 h1=>?_;replace I:=I.sim (h1.heap.trans hp.out.heap) ⟨h1.outs.1.trans hp.out.outs.1,h1.outs.2.trans hp.out.outs.2⟩;clear h1 hp wp;obtain rfl:=hR1.out;clear hR1;refine zaj rm_xc (t:=false) rfl ?_;obtain rfl:=hR0.out;refine zfk rm_xc rfl ?_;rw [zka _ rfl];refine hret'.out _ _ _ oz ow _ ?_ I;rw [hn.out];exact ⟨rfl,rfl,rfl,rfl,rfl⟩
 | succ k ih =>
  intro j hj x sz sw oz ow w hE0 hx I;have hjL:j < L.length:=by omega
  have nx:IntKind.i64.wrap ((j:Int)+1)=((j+1:Nat):Int):=by rw [IntKind.wrap_i64];omega
  have hop:L[j]?=some L[j]:=List.getElem?_eq_getElem hjL;have hok:L[j].Ok:=hops.1 _ (List.getElem_mem hjL);obtain ⟨b,off,eao,hcell⟩:=hops.2.2.2 (by intro q;rw [q] at hjL;simp at hjL);have hcells:=hcell j _ hop;replace ih:=yay (ih (j+1) (by omega));clear hop;generalize L[j]=o at *;obtain ⟨n,hn⟩:∃ n,L.length=n:=⟨_,rfl⟩;rw [hn] at hx hjL hL ih;subst eao;have hlt':(j:Int) < (n:Int):=by omega
  clear hret hops hcell;replace hn:=yay hn;replace hL:=yay hL;replace hcells:=yay hcells;replace hj:=yay hj;replace hjL:=yay hjL;unfold nilO at hkn;refine zan rm_xc rfl fun R0 hR0=>?_;rw [show cA zjw=Code.seq _ _ from rfl]
  unfold A10;simp only [hx.x0,hx.x3,hx.x4,hx.x5,hx.x6];refine zah rm_xc fun R1 hR1=>?_;refine zav zct (zab zae (by kernel_rfl)) rfl (zaa Try.func10) rfl fun wp hp=>?_;replace hp:=yay hp
  go_wp2_with fail
  refine fun w1 h1=>?_;replace I:=I.sim (h1.heap.trans hp.out.heap) ⟨h1.outs.1.trans hp.out.outs.1,h1.outs.2.trans hp.out.outs.2⟩;clear h1 hp wp;obtain rfl:=hR1.out;clear hR1;refine zaj rm_xc (t:=true) rfl ?_;refine zbh rm_xc ?_;obtain rfl:=hR0.out;clear hR0;refine zan rm_xc rfl fun R0 hR0=>?_;rw [show cA (cB zjw)=Code.block _ _ from rfl]
  refine zb2 rm_xc ?_;refine zan (c:=inN) rm_xc rfl fun R1 hR1=>?_;rw [zka _ rfl];have gn:=(I.ex kn _ hkn).at_;have m0:=zac gn 0;have m1:=zac gn 1;have m2:=zac gn 2;simp only [yac,yaa,yab] at m0 m1 m2;have hops1:zid w1 b (off+j * 4) o:=⟨zbd I.ns.l.same hcells.out.1,zbd I.ns.l.same hcells.out.2.1,zbd I.ns.l.same hcells.out.2.2.1,zbd I.ns.l.same hcells.out.2.2.2⟩;refine zr4 (kn:=kn) (jj:=j) (b:=b) (off:=off) (len:=n) (cap:=cap) rfl rfl rfl hjL.out hL.out hops1 m0 m1 m2 fun x1 w2 hx1 l2=>?_;replace I:=I.left l2;clear gn m0 m1 m2 hops1 l2;obtain rfl:=hR1.out;clear hR1;refine zan (c:=cB inN) rm_xc rfl fun R1 hR1=>?_;refine zan (c:=cA (cB inN)) rm_xc rfl fun R2 hR2=>?_;have gn:=(I.ex kn _ hkn).at_;have m0:=zac gn 0;have m1:=zac gn 1;have m2:=zac gn 2;simp only [yac,yaa,yab] at m0 m1 m2;refine zqn (kn:=kn) ((hx1 3 (by decide)).trans rfl) m0 m1 m2 fun x2 w3 hx2 x113 l3=>?_;replace I:=I.left l3;clear gn m0 m1 m2 l3;obtain rfl:=hR2.out;clear hR2;rw [show cB (cA (cB inN))=Code.cond _ _ _ from rfl]
  refine zaj rm_xc (t:=false) (by show x2 113=_;exact x113) ?_;refine zbh rm_xc ?_;obtain rfl:=hR1.out;clear hR1;have y0:=(hx2 0 (by decide)).trans ((hx1 0 (by decide)).trans rfl);have y3:=(hx2 3 (by decide)).trans ((hx1 3 (by decide)).trans rfl);have y4:=(hx2 4 (by decide)).trans ((hx1 4 (by decide)).trans rfl);have y5:=(hx2 5 (by decide)).trans ((hx1 5 (by decide)).trans rfl);have y6:=(hx2 6 (by decide)).trans ((hx1 6 (by decide)).trans rfl);clear hx1 hx2 x113;unfold A10;simp only [y0,y3,y4,y5,y6];clear y0 y3 y4 y5 y6;refine zan (c:=(cB (cB inN))) rm_xc rfl fun R1 hR1=>?_;rw [show cA (cB (cB inN))=Code.region _ _ _ from rfl]
  refine zcc 2 (by decide) (by decide) (zaf (by kernel_rfl)) fun wp hp=>?_;simp only [yad,yae];have gn:=(congrArg (·[kn]?) hp.heap).trans (I.ex kn _ hkn).at_;have m0:=zac gn 0;simp only [yac,yaa,yab] at m0;replace gn:=yay gn;replace hp:=yay hp;replace I:=yay I
  go_wp2_with fail
  refine zat rfl fun w1 h1=>?_;replace I:=I.out.left ((LeftW.of_sim hp.out.heap hp.out.outs).sim h1);clear h1 hp gn m0 wp;refine zal rm_xc rfl rfl (by decide) rfl Try.func57 (by kernel_rfl) (by kernel_rfl) ?_;walk_nrm;refine nil57 fun w2 L2=>?_;replace I:=I.left L2;clear L2;rw [Frame.finish_at];walk_nrm;refine zbp 3 5 (by decide) (by decide) (zaf (by kernel_rfl)) fun wp hp=>?_;simp only [yaf,yag,yad,yae];replace hp:=yay hp;replace I:=yay I
  go_wp2_with fail
  refine zat rfl fun w3 h3=>?_;replace I:=I.out.left ((LeftW.of_sim hp.out.heap hp.out.outs).sim h3);clear h3 hp wp;refine zad rm_xc ?_;obtain rfl:=hR1.out;clear hR1;refine zan (c:=(cB (cB (cB inN)))) rm_xc rfl fun R1 hR1=>?_;rw [show cA (cB (cB (cB inN)))=Code.region _ _ _ from rfl]
  refine zcc 2 (by decide) (by decide) (zaf (by kernel_rfl)) fun wp hp=>?_;simp only [yad,yae];have gn:=(congrArg (·[kn]?) hp.heap).trans (I.ex kn _ hkn).at_;have m0:=zac gn 0;simp only [yac,yaa,yab] at m0;replace gn:=yay gn;replace hp:=yay hp;replace I:=yay I
  go_wp2_with fail
  refine zat rfl fun w1 h1=>?_;replace I:=I.out.left ((LeftW.of_sim hp.out.heap hp.out.outs).sim h1);clear h1 hp gn m0 wp;refine zal rm_xc rfl rfl (by decide) rfl Try.func58 (by kernel_rfl) (by kernel_rfl) ?_;walk_nrm;refine nil58 fun w2 L2=>?_;replace I:=I.left L2;clear L2;rw [Frame.finish_at];walk_nrm;refine zbp 3 5 (by decide) (by decide) (zaf (by kernel_rfl)) fun wp hp=>?_;simp only [yaf,yag,yad,yae];replace hp:=yay hp;replace I:=yay I
  go_wp2_with fail
  refine zat rfl fun w3 h3=>?_;replace I:=I.out.left ((LeftW.of_sim hp.out.heap hp.out.outs).sim h3);clear h3 hp wp;refine zad rm_xc ?_;obtain rfl:=hR1.out;clear hR1;refine zan (c:=(cB (cB (cB (cB inN))))) rm_xc rfl fun R1 hR1=>?_;rw [show cA (cB (cB (cB (cB inN))))=Code.region _ _ _ from rfl]
  refine zcc 2 (by decide) (by decide) (zaf (by kernel_rfl)) fun wp hp=>?_;simp only [yad,yae];have gn:=(congrArg (·[kn]?) hp.heap).trans (I.ex kn _ hkn).at_;have m0:=zac gn 0;simp only [yac,yaa,yab] at m0;replace gn:=yay gn;replace hp:=yay hp;replace I:=yay I
  go_wp2_with fail
  refine zat rfl fun w1 h1=>?_;replace I:=I.out.left ((LeftW.of_sim hp.out.heap hp.out.outs).sim h1);clear h1 hp gn m0 wp;refine zal rm_xc rfl rfl (by decide) rfl Try.func59 (by kernel_rfl) (by kernel_rfl) ?_;walk_nrm;refine nil59 fun w2 L2=>?_;replace I:=I.left L2;clear L2;rw [Frame.finish_at];walk_nrm;refine zbp 3 5 (by decide) (by decide) (zaf (by kernel_rfl)) fun wp hp=>?_;simp only [yaf,yag,yad,yae];replace hp:=yay hp;replace I:=yay I
  go_wp2_with fail
  refine zat rfl fun w3 h3=>?_;replace I:=I.out.left ((LeftW.of_sim hp.out.heap hp.out.outs).sim h3);clear h3 hp wp;refine zad rm_xc ?_;obtain rfl:=hR1.out;clear hR1;refine zan (c:=(cB (cB (cB (cB (cB inN)))))) rm_xc rfl fun R1 hR1=>?_;rw [show cA (cB (cB (cB (cB (cB inN)))))=Code.seq _ _ from rfl]
  refine zah rm_xc fun R2 hR2=>?_;replace I:=yay I;refine zav zct (zab zae (by kernel_rfl)) rfl (zaa Try.func10) rfl fun wp hp=>?_;replace hp:=yay hp
  go_wp2_with fail
  refine fun w1 h1=>?_;replace I:=I.out.sim (h1.heap.trans hp.out.heap) ⟨h1.outs.1.trans hp.out.outs.1,h1.outs.2.trans hp.out.outs.2⟩;clear h1 hp wp;obtain rfl:=hR2.out;clear hR2;refine zaj rm_xc (t:=false) rfl ?_;refine zbh rm_xc ?_;obtain rfl:=hR1.out;clear hR1;rw [zka _ rfl];refine zan (c:=(cB (cB (cB (cB (cB (cB inN))))))) rm_xc rfl fun R1 hR1=>?_;refine call17 (jj:=j) (b:=b) (off:=off) (len:=n) (cap:=cap) (ka:=kz) hok hjL.out hL.out hcells.out rfl rfl hkz rfl I fun x1 oz1 ow1 w6 K1 a1 c1 hx1 x13 I=>?_;obtain rfl:=hR1.out;clear hR1;refine zan (c:=(cB (cB (cB (cB (cB (cB (cB inN)))))))) rm_xc rfl fun R1 hR1=>?_;refine call18 (jj:=j) (b:=b) (off:=off) (len:=n) (cap:=cap) (ka:=kf) hok hjL.out hL.out hcells.out ((hx1 0 (by decide)).trans rfl) ((hx1 5 (by decide)).trans rfl) (List.mem_cons_of_mem _ hkf) ((hx1 6 (by decide)).trans rfl) I fun x2 oz2 ow2 w7 K2 a2 c2 hx2 x14 I=>?_;obtain rfl:=hR1.out;clear hR1;obtain ⟨hr,hE⟩:=zvg hE0 o;have bk:=(I.ex K1 _ (List.mem_cons_of_mem _ (List.mem_cons_self ..))).at_;have bk':=(I.ex K2 _ (List.mem_cons_self ..)).at_;rw [← hr] at bk';have rl:=ztq sz o;have ga:=(I.ex kz _ (List.mem_cons_of_mem _ (List.mem_cons_of_mem _ hkz))).at_;have gb:=(I.ex kf _ (List.mem_cons_of_mem _ (List.mem_cons_of_mem _ hkf))).at_;unfold thO at ga gb;have za:=I.ns.z.rep;have zb:=I.ns.wt.rep;have wA:=zac (za.wo 0 Nat.one_pos).at_ 0;have fA:=zac (za.fl 0 Nat.one_pos).at_ 0;obtain ⟨pA,bA,kA⟩:=(za.bo 0 Nat.one_pos).cell;have wB:=zac (zb.wo 0 Nat.one_pos).at_ 0;have fB:=zac (zb.fl 0 Nat.one_pos).at_ 0;obtain ⟨pB,bB,kB⟩:=(zb.bo 0 Nat.one_pos).cell;have kA':KeptI w7 pA _:=kA.kept fun b _=>rfl;have kB':KeptI w7 pB _:=kB.kept fun b _=>rfl;replace bA:=zac bA 0;replace bB:=zac bB 0;have a0':=zac ga 0;have a1':=zac ga 1;have a2':=zac ga 2;have b0':=zac gb 0;have b1':=zac gb 1;have b2':=zac gb 2;simp only [yac,yaa,yab,TL] at wA fA bA wB fB bB a0' a1' a2' b0' b1' b2';obtain ⟨eW,eF,eB⟩:=id hE;rw [← eW] at wB;rw [← eF] at fB;replace kB':KeptI w7 pB ((zcq sz o).2.B 0):=by rw [eB];exact kB'
  clear ga gb za zb kA kB;refine zan (c:=(cB (cB (cB (cB (cB (cB (cB (cB inN))))))))) rm_xc rfl fun R1 hR1=>?_;refine zqm (kz:=kz) (kf:=kf) (k1:=K1) (k2:=K2) (r:=(zcq sz o).1) rl ((hx2 13 (by decide)).trans x13) x14 ((hx2 4 (by decide)).trans ((hx1 4 (by decide)).trans rfl)) ((hx2 5 (by decide)).trans ((hx1 5 (by decide)).trans rfl)) bk bk' a0' a1' a2' b0' b1' b2' wA fA bA kA' wB fB bB kB' fun x3 w8 hx3 x195 l8=>?_;obtain rfl:=hR1.out;clear hR1;rw [show cB (cB (cB (cB (cB (cB (cB (cB (cB inN))))))))=Code.cond _ _ _ from rfl]
  refine zaj rm_xc (t:=false) (by show x3 195=_;exact x195) ?_;refine zbh rm_xc ?_;replace I:=(I.left l8).sub (X:=X) fun p hp=>List.mem_cons_of_mem _ (List.mem_cons_of_mem _ hp);have hy:Y10 (.slice (some ⟨b,off,none⟩) n cap) kn kz kf j x3:=by
   refine Y10.of (x:=x2) ?_ fun j hj=>hx3 j (by omega);refine Y10.of (x:=x1) ?_ fun j hj=>hx2 j (by omega);refine Y10.of ?_ fun j hj=>hx1 j (by omega);exact ⟨rfl,rfl,rfl,rfl,rfl⟩
  clear hx1 hx2 hx3 l8 bk bk' x13 x14 x195 rl hr eW eF eB wA fA bA kA' wB fB bB kB' a0' a1' a2' b0' b1' b2';refine zaq rm_xc ?_;obtain rfl:=hR0.out;clear hR0;rw [show cB (cB zjw)=Code.region _ _ _ from rfl]
  unfold A10;simp only [hy.x0,hy.x3,hy.x4,hy.x5,hy.x6];refine zav zct (zab zae (by kernel_rfl)) rfl (zaa Try.func10) rfl fun wp hp=>?_;replace hp:=yay hp
  go_wp2_with fail
  refine fun w1 h1=>?_;replace I:=I.sim (h1.heap.trans hp.out.heap) ⟨h1.outs.1.trans hp.out.outs.1,h1.outs.2.trans hp.out.outs.2⟩;clear h1 hp wp;refine zc4 rm_xc ?_;rw [zka _ rfl];exact ih.out _ _ _ _ _ _ hE ⟨rfl,rfl,rfl,rfl,rfl⟩ I
end
structure NewAt (N:Nat) (o:Obj) (w w':World):Prop where
 at_:w'.heap[N]?=some o
 size:w'.heap.size=N+1
 l:LeftW w w'
theorem zqy (v:Int) {w:World} {N:Nat} (hN:w.heap.size=N):Calls Try.prog 32 #[.int .i64 v] w fun e w'=>e = .returned (.pointer (some ⟨N,0,none⟩))∧NewAt N (.cells #[.int .i64 v] 102 (0,0)) w w':=by
 subst hN;refine (zfx v w).mono ?_;rintro e w' ⟨rfl,rfl⟩;exact ⟨rfl,heap_alloc_new _ _,by simp,LeftW.refl.alloc _⟩
theorem zqz {w:World} {N:Nat} (hN:w.heap.size=N):Calls Try.prog 33 #[.bool false] w fun e w'=>e = .returned (.pointer (some ⟨N,0,none⟩))∧NewAt N (.cells #[.int .u32 (bit false)] 107 (0,0)) w w':=by
 subst hN;refine (zij false w).mono ?_;rintro e w' ⟨rfl,rfl⟩;have:=(LeftW.refl (w:=w)).alloc (.cells #[.int .u32 (bit false)] 107);exact ⟨rfl,heap_alloc_new w _,show (w.alloc _).heap.size=_ by simp,⟨this.same,this.size,this.outs⟩⟩
theorem zsk (v:Int) {w:World} {N:Nat} (hN:w.heap.size=N):Calls Try.prog 34 #[.int .i64 v] w fun e w'=>e = .returned (.pointer (some ⟨N,0,none⟩))∧w'.heap[N]?=some (.cells #[.pointer (some ⟨N+1,0,none⟩)] 113 (0,0))∧NewAt (N+1) (.cells #[.int .i64 v,.int .i64 0] 184 (0,0)) w w':=by
 subst hN;refine (zjt v w).mono ?_;rintro e w' ⟨rfl,rfl⟩;have s1:(w.alloc (.cells #[.pointer (some ⟨w.heap.size+1,0,none⟩)] 113)).heap.size=w.heap.size+1:=by simp
 have h2:=heap_alloc_new (w.alloc (.cells #[.pointer (some ⟨w.heap.size+1,0,none⟩)] 113)) (.cells #[.int .i64 v,.int .i64 0] 184);rw [s1] at h2;exact ⟨rfl,(Below.heap_alloc _ _ _ (by rw [s1];omega)).trans (heap_alloc_new w _),h2,by simp,(LeftW.refl.alloc _).alloc _⟩
structure Made (v:Int) (N:Nat) (w w':World):Prop where
 wo:w'.heap[N]?=some (.cells #[.int .i64 v] 102 (0,0))
 fl:w'.heap[N+1]?=some (.cells #[.int .u32 (bit false)] 107 (0,0))
 bo:w'.heap[N+2]?=some (.cells #[.pointer (some ⟨N+3,0,none⟩)] 113 (0,0))
 kp:w'.heap[N+3]?=some (.cells #[.int .i64 v,.int .i64 0] 184 (0,0))
 th:w'.heap[N+4]?=some (thO N (N+1) (N+2))
 l:LeftW w w'
theorem Made.left {v:Int} {N:Nat} {w w' w2:World} (h:Made v N w w') (l:LeftW w' w2):Made v N w w2:=by
 have k:∀ {b:Nat} {o:Obj},w'.heap[b]?=some o→w2.heap[b]?=some o:=fun {b o} e=>(l.same b (yah.1 e).1).trans e;exact ⟨k h.wo,k h.fl,k h.bo,k h.kp,k h.th,h.l.trans l⟩
section
variable {Z:Machine→Trace→Prop} {cs:List Frame} {w:World} {v:Int} {z:Nat→Value} {R:List Item}
end
end Go.Proofs.Ytofacoojpgkbiaa
