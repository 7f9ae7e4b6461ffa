/-
  A part of a proof. No condition of its own.
-/
import Derived.Test.YtofacoojpgkbiaaCNonP24
set_option linter.unusedVariables false
set_option maxHeartbeats 8000000
set_option linter.unusedSimpArgs false
namespace Go.Proofs.Ytofacoojpgkbiaa
open Go.Conc Go.RowKit
open Go.ConcN (upd upd_ne upd_same)
set_option maxRecDepth 100000
section
variable {S S':Type} {R:S→(Nat→Owner)→World→Prop} {R':S'→(Nat→Owner)→World→Prop} {B B':Nat→Prop}
theorem FW.lt {s:S} {own:Nat→Owner} {w:World} (h:FW R B s own w) {b:Nat} (hb:own b ≠ .out):b < w.heap.size:=by
 rcases Nat.lt_or_ge b w.heap.size with z|z
 ·exact z
 ·exact absurd (h.new b z) hb
theorem FW.aside (F:zq7 R B) {s:S} {o1 o2 o2':Nat→Owner} {w w':World} (h:FW R B s o1 w) (hd:∀ b,o1 b = .out∨o2 b = .out) (l:Left o2 o2' w w'):FW R B s o1 w'∧∀ b,o1 b = .out∨o2' b = .out:=by
 refine ⟨h.keep F l.size fun b hb ho=>(l.same b hb ((hd b).resolve_left ho)).2,fun b=>?_⟩;by_cases ho:o1 b = .out
 ·exact .inl ho
 ·exact .inr (l.same b (h.lt ho) ((hd b).resolve_left ho)).1
structure ND (R:S→(Nat→Owner)→World→Prop) (B:Nat→Prop) (R':S'→(Nat→Owner)→World→Prop) (B':Nat→Prop) (w0:World) (sz:S) (sw:S') (oz ow:Nat→Owner) (w:World):Prop where
 z:FW R B sz oz w
 wt:FW R' B' sw ow w
 dis:∀ b,oz b = .out∨ow b = .out
 l:LeftW w0 w
 oz0:∀ b,b < w0.heap.size→oz b = .out
 ow0:∀ b,b < w0.heap.size→ow b = .out
variable {w0 w w':World} {sz s':S} {sw t':S'} {oz ow o':Nat→Owner}
theorem ND.left (F:zq7 R B) (F':zq7 R' B') (h:ND R B R' B' w0 sz sw oz ow w) (l:LeftW w w'):ND R B R' B' w0 sz sw oz ow w' :=
 ⟨h.z.keep F l.size fun b hb _=>l.same b hb,h.wt.keep F' l.size fun b hb _=>l.same b hb,h.dis,h.l.trans l,h.oz0,h.ow0⟩
theorem ND.stepZ (F':zq7 R' B') (h:ND R B R' B' w0 sz sw oz ow w) (g:FW R B s' o' w') (l:Left oz o' w w'):ND R B R' B' w0 s' sw o' ow w':=by
 obtain ⟨h1,h2⟩:=FW.aside F' h.wt (fun b=>(h.dis b).symm) l;have hs:=h.l.size;exact ⟨g,h1,fun b=>(h2 b).symm,⟨fun b hb=>(l.same b (by omega) (h.oz0 b hb)).2.trans (h.l.same b hb),Nat.le_trans hs l.size,l.outs.1.trans h.l.outs.1,l.outs.2.trans h.l.outs.2⟩,fun b hb=>(l.same b (by omega) (h.oz0 b hb)).1,h.ow0⟩
theorem ND.stepW (F:zq7 R B) (h:ND R B R' B' w0 sz sw oz ow w) (g:FW R' B' t' o' w') (l:Left ow o' w w'):ND R B R' B' w0 sz t' oz o' w':=by
 obtain ⟨h1,h2⟩:=FW.aside F h.z h.dis l;have hs:=h.l.size;exact ⟨h1,g,h2,⟨fun b hb=>(l.same b (by omega) (h.ow0 b hb)).2.trans (h.l.same b hb),Nat.le_trans hs l.size,l.outs.1.trans h.l.outs.1,l.outs.2.trans h.l.outs.2⟩,h.oz0,fun b hb=>(l.same b (by omega) (h.ow0 b hb)).1⟩
variable {sb n n':Nat}
end
theorem newTh {v:Int} (hv:zcu v) {w0 w1:World} {wb fb bb kb:Nat} (hN:LeftW w0 w1) (hd:w0.heap.size≤wb∧w0.heap.size≤fb∧w0.heap.size≤bb∧w0.heap.size≤kb)
  (e1:w1.heap[wb]?=some (.cells #[.int .i64 v] 102 (0,0))) (e2:w1.heap[fb]?=some (.cells #[.int .u32 (bit false)] 107 (0,0))) (e3:w1.heap[bb]?=some (.cells #[.pointer (some ⟨kb,0,none⟩)] 113 (0,0))) (e4:w1.heap[kb]?=some (.cells #[.int .i64 v,.int .i64 0] 184 (0,0))) :
  ThW wb fb bb (stC [v]) (fun b=>if b=wb∨b=fb∨b=bb then .sh else if b=kb then .tag (zgf 0 1+2) else .out) w1:=by
 have l1:=(yah.1 e1).1;have l2:=(yah.1 e2).1;have l3:=(yah.1 e3).1;have l4:=(yah.1 e4).1;have hk:¬ (kb=wb∨kb=fb∨kb=bb):=by
  rintro (z|z|z)<;>rw [z] at e4
  ·rw [e1] at e4;simp at e4
  ·rw [e2] at e4;simp at e4
  ·rw [e3] at e4;simp at e4
 have htag:∀ x t,(if x=wb∨x=fb∨x=bb then Owner.sh else if x=kb then .tag (zgf 0 1+2) else .out) = .tag (t+2)→x=kb∧t=zgf 0 1:=fun x t q=>by
  split at q
  ·cases q
  ·split at q
   ·rename_i z;injection q with q;exact ⟨z,by omega⟩
   ·cases q
 refine ⟨⟨show 1≤65536 by decide,fun i hi=>?_,fun i hi=>?_,fun i hi=>?_,fun i j hi hj _=>by have:i < 1:=hi;have:j < 1:=hj;omega,fun i j hi hj _=>by have:i < 1:=hi;have:j < 1:=hj;omega,fun i j hi hj _=>by have:i < 1:=hi;have:j < 1:=hj;omega⟩,fun b hb=>?_,fun b hb=>?_⟩
 ·obtain rfl:i=0:=by have:i < 1:=hi;omega
  exact ⟨if_pos (.inl rfl),e1,hv⟩
 ·obtain rfl:i=0:=by have:i < 1:=hi;omega
  exact ⟨if_pos (.inr (.inl rfl)),e2⟩
 ·obtain rfl:i=0:=by have:i < 1:=hi;omega
  refine ⟨if_pos (.inr (.inr rfl)),⟨_,e3,hv,.inr ⟨Nat.one_pos,kb,rfl,?_,e4⟩⟩,fun x y t q1 q2=>?_,fun x t q=>?_⟩
  ·dsimp only;rw [if_neg hk,if_pos rfl];rfl
  ·rw [(htag x _ q1).1,(htag y _ q2).1]
  ·rw [(htag x _ q).2];show zgf 0 1 / 65536≤1;decide
 ·rw [if_neg (by rintro (z|z|z)<;>omega),if_neg (by omega)]
 ·by_cases z:b=wb∨b=fb∨b=bb
  ·exact .inl z
  ·right;rw [if_neg z] at hb ⊢;by_cases y:b=kb
   ·rw [if_pos y];exact ⟨_,by omega,rfl⟩
   ·rw [if_neg y] at hb;exact absurd rfl hb
structure P8 where
 wa:Nat
 fa:Nat
 ba:Nat
 wb:Nat
 fb:Nat
 bb:Nat
 sb:Nat
def thO (wb fb bb:Nat):Obj := .cells #[gpv wb,gpv fb,gpv bb] 80 (0,0)
section
variable {P:P8} {X:List (Nat×Obj)} {w0 w w':World} {n n':Nat} {sz sw s':zb8} {oz ow o':Nat→Owner}
end
def ansE (r:Ans) (a:Option Addr) (c:Nat):Obj := .cells #[.bool r.ok,.int .i64 r.n,.slice a 0 c] 42 (0,0)
section
variable {P:P8} {X:List (Nat×Obj)} {w0 w w':World} {jj b off len cap n:Nat} {s s2:zb8} {o:OpD} {z x:Nat→Value} {listed:Array Bool} {oz ow oz' ow':Nat→Owner}
end
section
variable {P:P8} {X:List (Nat×Obj)} {Z:Machine→Trace→Prop} {cs:List Frame} {w0 w:World} {jj b off len cap n ka:Nat} {s s2:zb8} {o:OpD} {z:Nat→Value} {oz ow:Nat→Owner} {R:List Item}
end
section
variable {P:P8} {X:List (Nat×Obj)} {w0 w w':World} {jj b off len cap n:Nat} {s s2:zb8} {o:OpD} {z x:Nat→Value} {listed:Array Bool} {oz ow oz' ow':Nat→Owner}
end
section
variable {P:P8} {X:List (Nat×Obj)} {Z:Machine→Trace→Prop} {cs:List Frame} {w0 w:World} {jj b off len cap n ka:Nat} {s s2:zb8} {o:OpD} {z:Nat→Value} {oz ow:Nat→Owner} {R:List Item}
end
structure N35 (w0:World) (T:Nat) (o:OpD) (b:Bool) (n:Int) (w:World):Prop where
 l:LeftW w0 w
 lo:w0.heap.size≤T
 t:w.heap[T]?=some (.cells #[.pointer none,.pointer none,.pointer none] 80 (0,0))
 op:w.heap[T+1]?=some (.cells #[.int .i64 o.kind,.int .i64 o.a,.int .i64 o.b,.int .i64 o.c] 45 (0,0))
 res:w.heap[T+2]?=some (.cells #[.bool false,.int .i64 0,.slice none 0 0] 42 (0,0))
 an:w.heap[T+3]?=some (.cells #[.bool b,.int .i64 n,.slice none 0 0] 42 (0,0))
section
variable {w0 w w':World} {T:Nat} {o:OpD} {b b':Bool} {n n':Int}
theorem N35.left (h:N35 w0 T o b n w) (l:LeftW w w'):N35 w0 T o b n w':=by
 have k:∀ {b:Nat} {o:Obj},w.heap[b]?=some o→w'.heap[b]?=some o:=fun {b o} e=>(l.same b (yah.1 e).1).trans e;exact ⟨h.l.trans l,h.lo,k h.t,k h.op,k h.res,k h.an⟩
theorem N35.put (h:N35 w0 T o b n w) (hk:∀ c,c≠T+3→w'.heap[c]?=w.heap[c]?) (hs:w'.heap.size=w.heap.size) (ho:w'.os=w.os∧w'.output=w.output) (e:w'.heap[T+3]?=some (.cells #[.bool b',.int .i64 n',.slice none 0 0] 42 (0,0))):N35 w0 T o b' n' w':=by
 have hl:=h.lo;exact ⟨⟨fun c hc=>(hk c (by omega)).trans (h.l.same c hc),by have:=h.l.size;omega,ho.1.trans h.l.outs.1,ho.2.trans h.l.outs.2⟩,h.lo,(hk _ (by omega)).trans h.t,(hk _ (by omega)).trans h.op,(hk _ (by omega)).trans h.res,e⟩
theorem zll {w:World} {g j k:Nat} {u v:Value} {c:Nat} (h:c≠g):((w.setCell ⟨g,j,none⟩ u).setCell ⟨g,k,none⟩ v).heap[c]?=w.heap[c]?:=(Below.heap_setCell _ _ _ _ h).trans (Below.heap_setCell _ _ _ _ h)
structure X35 (T:Nat) (x:Nat→Value):Prop where
 x1:x 1 = .nilIface
 x3:x 3 = .pointer (some ⟨T,0,none⟩)
 x5:x 5 = .pointer (some ⟨T+1,0,none⟩)
 x6:x 6 = .pointer (some ⟨T+2,0,none⟩)
 x7:x 7 = .pointer (some ⟨T+3,0,none⟩)
end
section
variable {Z:Machine→Trace→Prop} {cs:List Frame} {w0 w:World} {T:Nat} {o:OpD} {b:Bool} {n:Int} {x:Nat→Value} {R:List Item}
theorem nk1 (I:∃ b n,N35 w0 T o b n w) (X:X35 T x) (hret:∀ y w',X35 T y→(∃ b n,N35 w0 T o b n w')→RM Try.prog Z (G ((base 35).at (A35 y) R) cs) w'):RM Try.prog Z (G ((base 35).at (A35 x) (.code (cA (zaz 0))::R)) cs) w:=by
 obtain ⟨b,n,I⟩:=I;have hr:=yay hret;clear hret;rw [show cA (zaz 0)=Code.region _ _ _ from rfl]
 unfold A35;simp only [X.x1,X.x3,X.x5,X.x6,X.x7];refine zcc 3 (by decide) (by decide) (zaf (by kernel_rfl)) fun wp hp=>?_;simp only [yad,yae];have gT:=(congrArg (·[T]?) hp.heap).trans I.t;have t0:=zac gT 0;have t1:=zac gT 1;have t2:=zac gT 2;simp only [yac,yaa,yab] at t0 t1 t2;replace gT:=yay gT;replace hp:=yay hp;replace I:=yay I
 go_wp2_with fail
 refine zat rfl fun w1 h1=>?_;replace I:=I.out.left ((LeftW.of_sim hp.out.heap hp.out.outs).sim h1);clear h1 hp gT t0 t1 t2 wp;refine zal rm_xc rfl rfl (by decide) rfl Try.func46 (by kernel_rfl) (by kernel_rfl) ?_;walk_nrm;refine nil46 fun w2 L2=>?_;replace I:=I.left L2;clear L2;rw [Frame.finish_at];walk_nrm;refine zbp 4 2 (by decide) (by decide) (zaf (by kernel_rfl)) fun wp hp=>?_;simp only [yaf,yag,yad,yae];have gA:=(congrArg (·[T+3]?) hp.heap).trans I.an;have k0:=zac gA 0;have k1:=zac gA 1;have f0:=zak gA 0;have f1:=zak gA 1;simp only [yac,yaa,yab] at k0 k1;replace gA:=yay gA;replace hp:=yay hp;replace I:=yay I
 go_wp2_with fail
 refine zat rfl fun w3 h3=>?_;have h3':Sim w3 (wp.setCell ⟨T+3,1,none⟩ (.int .i64 0)):=h3;have I3:=I.out.put (w':=w3) (fun c hc=>by rw [h3'.heap,Below.heap_setCell _ _ _ _ hc,hp.out.heap]) (by rw [h3'.heap];simp [World.setCell,hp.out.heap]) ⟨h3'.outs.1.trans hp.out.outs.1,h3'.outs.2.trans hp.out.outs.2⟩ ((congrArg (·[T+3]?) h3'.heap).trans (zam gA.out 1 (.int .i64 0)));clear h3 h3' hp gA k0 k1 f0 f1 I wp;refine zad rm_xc ?_;rw [za9 _ rfl];exact hr.out _ _ ⟨rfl,rfl,rfl,rfl,rfl⟩ ⟨_,_,I3⟩
theorem nk2 (I:∃ b n,N35 w0 T o b n w) (X:X35 T x) (hret:∀ y w',X35 T y→(∃ b n,N35 w0 T o b n w')→RM Try.prog Z (G ((base 35).at (A35 y) R) cs) w'):RM Try.prog Z (G ((base 35).at (A35 x) (.code (cA (zaz 1))::R)) cs) w:=by
 obtain ⟨b,n,I⟩:=I;have hr:=yay hret;clear hret;rw [show cA (zaz 1)=Code.region _ _ _ from rfl]
 unfold A35;simp only [X.x1,X.x3,X.x5,X.x6,X.x7];refine zcc 5 (by decide) (by decide) (zaf (by kernel_rfl)) fun wp hp=>?_;simp only [yad,yae];have gT:=(congrArg (·[T]?) hp.heap).trans I.t;have t0:=zac gT 0;have t1:=zac gT 1;have t2:=zac gT 2;simp only [yac,yaa,yab] at t0 t1 t2;replace gT:=yay gT;have gO:=(congrArg (·[T+1]?) hp.heap).trans I.op;have o2:=zac gO 2;have o3:=zac gO 3;simp only [yac,yaa,yab] at o2 o3;replace gO:=yay gO;replace hp:=yay hp;replace I:=yay I
 go_wp2_with fail
 refine zat rfl fun w1 h1=>?_;replace I:=I.out.left ((LeftW.of_sim hp.out.heap hp.out.outs).sim h1);clear h1 hp gT t0 t1 t2 gO o2 o3 wp;refine zal rm_xc rfl rfl (by decide) rfl Try.func102 (by kernel_rfl) (by kernel_rfl) ?_;walk_nrm;refine nil102 fun w2 L2=>?_;replace I:=I.left L2;clear L2;rw [Frame.finish_at];walk_nrm;refine zad rm_xc ?_;rw [za9 _ rfl];exact hr.out _ _ ⟨rfl,rfl,rfl,rfl,rfl⟩ ⟨_,_,I⟩
theorem nk3 (I:∃ b n,N35 w0 T o b n w) (X:X35 T x) (hret:∀ y w',X35 T y→(∃ b n,N35 w0 T o b n w')→RM Try.prog Z (G ((base 35).at (A35 y) R) cs) w'):RM Try.prog Z (G ((base 35).at (A35 x) (.code (cA (zaz 2))::R)) cs) w:=by
 obtain ⟨b,n,I⟩:=I;have hr:=yay hret;clear hret;rw [show cA (zaz 2)=Code.region _ _ _ from rfl]
 unfold A35;simp only [X.x1,X.x3,X.x5,X.x6,X.x7];refine zcc 5 (by decide) (by decide) (zaf (by kernel_rfl)) fun wp hp=>?_;simp only [yad,yae];have gT:=(congrArg (·[T]?) hp.heap).trans I.t;have t0:=zac gT 0;have t1:=zac gT 1;have t2:=zac gT 2;simp only [yac,yaa,yab] at t0 t1 t2;replace gT:=yay gT;have gO:=(congrArg (·[T+1]?) hp.heap).trans I.op;have o2:=zac gO 2;have o3:=zac gO 3;simp only [yac,yaa,yab] at o2 o3;replace gO:=yay gO;replace hp:=yay hp;replace I:=yay I
 go_wp2_with fail
 refine zat rfl fun w1 h1=>?_;replace I:=I.out.left ((LeftW.of_sim hp.out.heap hp.out.outs).sim h1);clear h1 hp gT t0 t1 t2 gO o2 o3 wp;refine zal rm_xc rfl rfl (by decide) rfl Try.func47 (by kernel_rfl) (by kernel_rfl) ?_;walk_nrm;refine nil47 fun w2 L2=>?_;replace I:=I.left L2;clear L2;rw [Frame.finish_at];walk_nrm;refine zbp 6 2 (by decide) (by decide) (zaf (by kernel_rfl)) fun wp hp=>?_;simp only [yaf,yag,yad,yae];have gA:=(congrArg (·[T+3]?) hp.heap).trans I.an;have k0:=zac gA 0;have k1:=zac gA 1;have f0:=zak gA 0;have f1:=zak gA 1;simp only [yac,yaa,yab] at k0 k1;replace gA:=yay gA;replace hp:=yay hp;replace I:=yay I
 go_wp2_with fail
 refine zat rfl fun w3 h3=>?_;have h3':Sim w3 (wp.setCell ⟨T+3,1,none⟩ (.int .i64 0)):=h3;have I3:=I.out.put (w':=w3) (fun c hc=>by rw [h3'.heap,Below.heap_setCell _ _ _ _ hc,hp.out.heap]) (by rw [h3'.heap];simp [World.setCell,hp.out.heap]) ⟨h3'.outs.1.trans hp.out.outs.1,h3'.outs.2.trans hp.out.outs.2⟩ ((congrArg (·[T+3]?) h3'.heap).trans (zam gA.out 1 (.int .i64 0)));clear h3 h3' hp gA k0 k1 f0 f1 I wp;refine zad rm_xc ?_;rw [za9 _ rfl];exact hr.out _ _ ⟨rfl,rfl,rfl,rfl,rfl⟩ ⟨_,_,I3⟩
theorem nk4 (I:∃ b n,N35 w0 T o b n w) (X:X35 T x) (hret:∀ y w',X35 T y→(∃ b n,N35 w0 T o b n w')→RM Try.prog Z (G ((base 35).at (A35 y) R) cs) w'):RM Try.prog Z (G ((base 35).at (A35 x) (.code (cA (zaz 3))::R)) cs) w:=by
 obtain ⟨b,n,I⟩:=I;have hr:=yay hret;clear hret;rw [show cA (zaz 3)=Code.region _ _ _ from rfl]
 unfold A35;simp only [X.x1,X.x3,X.x5,X.x6,X.x7];refine zcc 5 (by decide) (by decide) (zaf (by kernel_rfl)) fun wp hp=>?_;simp only [yad,yae];have gT:=(congrArg (·[T]?) hp.heap).trans I.t;have t0:=zac gT 0;have t1:=zac gT 1;have t2:=zac gT 2;simp only [yac,yaa,yab] at t0 t1 t2;replace gT:=yay gT;have gO:=(congrArg (·[T+1]?) hp.heap).trans I.op;have o2:=zac gO 2;have o3:=zac gO 3;simp only [yac,yaa,yab] at o2 o3;replace gO:=yay gO;replace hp:=yay hp;replace I:=yay I
 go_wp2_with fail
 refine zat rfl fun w1 h1=>?_;replace I:=I.out.left ((LeftW.of_sim hp.out.heap hp.out.outs).sim h1);clear h1 hp gT t0 t1 t2 gO o2 o3 wp;refine zal rm_xc rfl rfl (by decide) rfl Try.func48 (by kernel_rfl) (by kernel_rfl) ?_;walk_nrm;refine nil48 fun w2 L2=>?_;replace I:=I.left L2;clear L2;rw [Frame.finish_at];walk_nrm;refine zbp 6 2 (by decide) (by decide) (zaf (by kernel_rfl)) fun wp hp=>?_;simp only [yaf,yag,yad,yae];have gA:=(congrArg (·[T+3]?) hp.heap).trans I.an;have k0:=zac gA 0;have k1:=zac gA 1;have f0:=zak gA 0;have f1:=zak gA 1;simp only [yac,yaa,yab] at k0 k1;replace gA:=yay gA;replace hp:=yay hp;replace I:=yay I
 go_wp2_with fail
 refine zat rfl fun w3 h3=>?_;have h3':Sim w3 (wp.setCell ⟨T+3,1,none⟩ (.int .i64 0)):=h3;have I3:=I.out.put (w':=w3) (fun c hc=>by rw [h3'.heap,Below.heap_setCell _ _ _ _ hc,hp.out.heap]) (by rw [h3'.heap];simp [World.setCell,hp.out.heap]) ⟨h3'.outs.1.trans hp.out.outs.1,h3'.outs.2.trans hp.out.outs.2⟩ ((congrArg (·[T+3]?) h3'.heap).trans (zam gA.out 1 (.int .i64 0)));clear h3 h3' hp gA k0 k1 f0 f1 I wp;refine zad rm_xc ?_;rw [za9 _ rfl];exact hr.out _ _ ⟨rfl,rfl,rfl,rfl,rfl⟩ ⟨_,_,I3⟩
theorem nk5 (I:∃ b n,N35 w0 T o b n w) (X:X35 T x) (hret:∀ y w',X35 T y→(∃ b n,N35 w0 T o b n w')→RM Try.prog Z (G ((base 35).at (A35 y) R) cs) w'):RM Try.prog Z (G ((base 35).at (A35 x) (.code (cA (zaz 4))::R)) cs) w:=by
 obtain ⟨b,n,I⟩:=I;have hr:=yay hret;clear hret;rw [show cA (zaz 4)=Code.region _ _ _ from rfl]
 unfold A35;simp only [X.x1,X.x3,X.x5,X.x6,X.x7];refine zcc 7 (by decide) (by decide) (zaf (by kernel_rfl)) fun wp hp=>?_;simp only [yad,yae];have gT:=(congrArg (·[T]?) hp.heap).trans I.t;have t0:=zac gT 0;have t1:=zac gT 1;have t2:=zac gT 2;simp only [yac,yaa,yab] at t0 t1 t2;replace gT:=yay gT;have gO:=(congrArg (·[T+1]?) hp.heap).trans I.op;have o2:=zac gO 2;have o3:=zac gO 3;simp only [yac,yaa,yab] at o2 o3;replace gO:=yay gO;replace hp:=yay hp;replace I:=yay I
 go_wp2_with fail
 refine zat rfl fun w1 h1=>?_;replace I:=I.out.left ((LeftW.of_sim hp.out.heap hp.out.outs).sim h1);clear h1 hp gT t0 t1 t2 gO o2 o3 wp;refine zal rm_xc rfl rfl (by decide) rfl Try.func49 (by kernel_rfl) (by kernel_rfl) ?_;walk_nrm;refine nil49 fun w2 L2=>?_;replace I:=I.left L2;clear L2;rw [Frame.finish_at];walk_nrm;refine zbp 8 2 (by decide) (by decide) (zaf (by kernel_rfl)) fun wp hp=>?_;simp only [yaf,yag,yad,yae];have gA:=(congrArg (·[T+3]?) hp.heap).trans I.an;have k0:=zac gA 0;have k1:=zac gA 1;have f0:=zak gA 0;have f1:=zak gA 1;simp only [yac,yaa,yab] at k0 k1;replace gA:=yay gA;replace hp:=yay hp;replace I:=yay I
 go_wp2_with fail
 refine zat rfl fun w3 h3=>?_;have h3':Sim w3 (wp.setCell ⟨T+3,0,none⟩ (.bool false)):=h3;have I3:=I.out.put (w':=w3) (fun c hc=>by rw [h3'.heap,Below.heap_setCell _ _ _ _ hc,hp.out.heap]) (by rw [h3'.heap];simp [World.setCell,hp.out.heap]) ⟨h3'.outs.1.trans hp.out.outs.1,h3'.outs.2.trans hp.out.outs.2⟩ ((congrArg (·[T+3]?) h3'.heap).trans (zam gA.out 0 (.bool false)));clear h3 h3' hp gA k0 k1 f0 f1 I wp;refine zad rm_xc ?_;rw [za9 _ rfl];exact hr.out _ _ ⟨rfl,rfl,rfl,rfl,rfl⟩ ⟨_,_,I3⟩
theorem nk6 (I:∃ b n,N35 w0 T o b n w) (X:X35 T x) (hret:∀ y w',X35 T y→(∃ b n,N35 w0 T o b n w')→RM Try.prog Z (G ((base 35).at (A35 y) R) cs) w'):RM Try.prog Z (G ((base 35).at (A35 x) (.code (cA (zaz 5))::R)) cs) w:=by
 obtain ⟨b,n,I⟩:=I;have hr:=yay hret;clear hret;rw [show cA (zaz 5)=Code.region _ _ _ from rfl]
 unfold A35;simp only [X.x1,X.x3,X.x5,X.x6,X.x7];refine zcc 5 (by decide) (by decide) (zaf (by kernel_rfl)) fun wp hp=>?_;simp only [yad,yae];have gT:=(congrArg (·[T]?) hp.heap).trans I.t;have t0:=zac gT 0;have t1:=zac gT 1;have t2:=zac gT 2;simp only [yac,yaa,yab] at t0 t1 t2;replace gT:=yay gT;have gO:=(congrArg (·[T+1]?) hp.heap).trans I.op;have o2:=zac gO 2;have o3:=zac gO 3;simp only [yac,yaa,yab] at o2 o3;replace gO:=yay gO;replace hp:=yay hp;replace I:=yay I
 go_wp2_with fail
 refine zat rfl fun w1 h1=>?_;replace I:=I.out.left ((LeftW.of_sim hp.out.heap hp.out.outs).sim h1);clear h1 hp gT t0 t1 t2 gO o2 o3 wp;refine zal rm_xc rfl rfl (by decide) rfl Try.func57 (by kernel_rfl) (by kernel_rfl) ?_;walk_nrm;refine nil57 fun w2 L2=>?_;replace I:=I.left L2;clear L2;rw [Frame.finish_at];walk_nrm;refine zbp 6 7 (by decide) (by decide) (zaf (by kernel_rfl)) fun wp hp=>?_;simp only [yaf,yag,yad,yae];have gA:=(congrArg (·[T+3]?) hp.heap).trans I.an;have k0:=zac gA 0;have k1:=zac gA 1;have f0:=zak gA 0;have f1:=zak gA 1;simp only [yac,yaa,yab] at k0 k1;replace gA:=yay gA;replace hp:=yay hp;replace I:=yay I
 go_wp2_with fail
 refine zat rfl fun w3 h3=>?_;have h3':Sim w3 ((wp.setCell ⟨T+3,1,none⟩ (.int .i64 0)).setCell ⟨T+3,0,none⟩ (.bool false)):=h3;have I3:=I.out.put (w':=w3) (fun c hc=>by rw [h3'.heap,zll hc,hp.out.heap]) (by rw [h3'.heap];simp [World.setCell,hp.out.heap]) ⟨h3'.outs.1.trans hp.out.outs.1,h3'.outs.2.trans hp.out.outs.2⟩ ((congrArg (·[T+3]?) h3'.heap).trans (zam (zam gA.out 1 (.int .i64 0)) 0 (.bool false)));clear h3 h3' hp gA k0 k1 f0 f1 I wp;refine zad rm_xc ?_;rw [za9 _ rfl];exact hr.out _ _ ⟨rfl,rfl,rfl,rfl,rfl⟩ ⟨_,_,I3⟩
theorem nk7 (I:∃ b n,N35 w0 T o b n w) (X:X35 T x) (hret:∀ y w',X35 T y→(∃ b n,N35 w0 T o b n w')→RM Try.prog Z (G ((base 35).at (A35 y) R) cs) w'):RM Try.prog Z (G ((base 35).at (A35 x) (.code (cA (zaz 6))::R)) cs) w:=by
 obtain ⟨b,n,I⟩:=I;have hr:=yay hret;clear hret;rw [show cA (zaz 6)=Code.region _ _ _ from rfl]
 unfold A35;simp only [X.x1,X.x3,X.x5,X.x6,X.x7];refine zcc 5 (by decide) (by decide) (zaf (by kernel_rfl)) fun wp hp=>?_;simp only [yad,yae];have gT:=(congrArg (·[T]?) hp.heap).trans I.t;have t0:=zac gT 0;have t1:=zac gT 1;have t2:=zac gT 2;simp only [yac,yaa,yab] at t0 t1 t2;replace gT:=yay gT;have gO:=(congrArg (·[T+1]?) hp.heap).trans I.op;have o2:=zac gO 2;have o3:=zac gO 3;simp only [yac,yaa,yab] at o2 o3;replace gO:=yay gO;replace hp:=yay hp;replace I:=yay I
 go_wp2_with fail
 refine zat rfl fun w1 h1=>?_;replace I:=I.out.left ((LeftW.of_sim hp.out.heap hp.out.outs).sim h1);clear h1 hp gT t0 t1 t2 gO o2 o3 wp;refine zal rm_xc rfl rfl (by decide) rfl Try.func58 (by kernel_rfl) (by kernel_rfl) ?_;walk_nrm;refine nil58 fun w2 L2=>?_;replace I:=I.left L2;clear L2;rw [Frame.finish_at];walk_nrm;refine zbp 6 7 (by decide) (by decide) (zaf (by kernel_rfl)) fun wp hp=>?_;simp only [yaf,yag,yad,yae];have gA:=(congrArg (·[T+3]?) hp.heap).trans I.an;have k0:=zac gA 0;have k1:=zac gA 1;have f0:=zak gA 0;have f1:=zak gA 1;simp only [yac,yaa,yab] at k0 k1;replace gA:=yay gA;replace hp:=yay hp;replace I:=yay I
 go_wp2_with fail
 refine zat rfl fun w3 h3=>?_;have h3':Sim w3 ((wp.setCell ⟨T+3,1,none⟩ (.int .i64 0)).setCell ⟨T+3,0,none⟩ (.bool false)):=h3;have I3:=I.out.put (w':=w3) (fun c hc=>by rw [h3'.heap,zll hc,hp.out.heap]) (by rw [h3'.heap];simp [World.setCell,hp.out.heap]) ⟨h3'.outs.1.trans hp.out.outs.1,h3'.outs.2.trans hp.out.outs.2⟩ ((congrArg (·[T+3]?) h3'.heap).trans (zam (zam gA.out 1 (.int .i64 0)) 0 (.bool false)));clear h3 h3' hp gA k0 k1 f0 f1 I wp;refine zad rm_xc ?_;rw [za9 _ rfl];exact hr.out _ _ ⟨rfl,rfl,rfl,rfl,rfl⟩ ⟨_,_,I3⟩
theorem nk8 (I:∃ b n,N35 w0 T o b n w) (X:X35 T x) (hret:∀ y w',X35 T y→(∃ b n,N35 w0 T o b n w')→RM Try.prog Z (G ((base 35).at (A35 y) R) cs) w'):RM Try.prog Z (G ((base 35).at (A35 x) (.code (cA (zaz 7))::R)) cs) w:=by
 obtain ⟨b,n,I⟩:=I;have hr:=yay hret;clear hret;rw [show cA (zaz 7)=Code.region _ _ _ from rfl]
 unfold A35;simp only [X.x1,X.x3,X.x5,X.x6,X.x7];refine zcc 7 (by decide) (by decide) (zaf (by kernel_rfl)) fun wp hp=>?_;simp only [yad,yae];have gT:=(congrArg (·[T]?) hp.heap).trans I.t;have t0:=zac gT 0;have t1:=zac gT 1;have t2:=zac gT 2;simp only [yac,yaa,yab] at t0 t1 t2;replace gT:=yay gT;have gO:=(congrArg (·[T+1]?) hp.heap).trans I.op;have o2:=zac gO 2;have o3:=zac gO 3;simp only [yac,yaa,yab] at o2 o3;replace gO:=yay gO;replace hp:=yay hp;replace I:=yay I
 go_wp2_with fail
 refine zat rfl fun w1 h1=>?_;replace I:=I.out.left ((LeftW.of_sim hp.out.heap hp.out.outs).sim h1);clear h1 hp gT t0 t1 t2 gO o2 o3 wp;refine zal rm_xc rfl rfl (by decide) rfl Try.func59 (by kernel_rfl) (by kernel_rfl) ?_;walk_nrm;refine nil59 fun w2 L2=>?_;replace I:=I.left L2;clear L2;rw [Frame.finish_at];walk_nrm;refine zbp 8 7 (by decide) (by decide) (zaf (by kernel_rfl)) fun wp hp=>?_;simp only [yaf,yag,yad,yae];have gA:=(congrArg (·[T+3]?) hp.heap).trans I.an;have k0:=zac gA 0;have k1:=zac gA 1;have f0:=zak gA 0;have f1:=zak gA 1;simp only [yac,yaa,yab] at k0 k1;replace gA:=yay gA;replace hp:=yay hp;replace I:=yay I
 go_wp2_with fail
 refine zat rfl fun w3 h3=>?_;have h3':Sim w3 ((wp.setCell ⟨T+3,1,none⟩ (.int .i64 0)).setCell ⟨T+3,0,none⟩ (.bool false)):=h3;have I3:=I.out.put (w':=w3) (fun c hc=>by rw [h3'.heap,zll hc,hp.out.heap]) (by rw [h3'.heap];simp [World.setCell,hp.out.heap]) ⟨h3'.outs.1.trans hp.out.outs.1,h3'.outs.2.trans hp.out.outs.2⟩ ((congrArg (·[T+3]?) h3'.heap).trans (zam (zam gA.out 1 (.int .i64 0)) 0 (.bool false)));clear h3 h3' hp gA k0 k1 f0 f1 I wp;refine zad rm_xc ?_;rw [za9 _ rfl];exact hr.out _ _ ⟨rfl,rfl,rfl,rfl,rfl⟩ ⟨_,_,I3⟩
theorem nk9 (I:∃ b n,N35 w0 T o b n w) (X:X35 T x) (hret:∀ y w',X35 T y→(∃ b n,N35 w0 T o b n w')→RM Try.prog Z (G ((base 35).at (A35 y) R) cs) w'):RM Try.prog Z (G ((base 35).at (A35 x) (.code (cA (zaz 8))::R)) cs) w:=by
 obtain ⟨b,n,I⟩:=I;have hr:=yay hret;clear hret;rw [show cA (zaz 8)=Code.region _ _ _ from rfl]
 unfold A35;simp only [X.x1,X.x3,X.x5,X.x6,X.x7];refine zcc 3 (by decide) (by decide) (zaf (by kernel_rfl)) fun wp hp=>?_;simp only [yad,yae];have gT:=(congrArg (·[T]?) hp.heap).trans I.t;have t0:=zac gT 0;have t1:=zac gT 1;have t2:=zac gT 2;simp only [yac,yaa,yab] at t0 t1 t2;replace gT:=yay gT;replace hp:=yay hp;replace I:=yay I
 go_wp2_with fail
 refine zat rfl fun w1 h1=>?_;replace I:=I.out.left ((LeftW.of_sim hp.out.heap hp.out.outs).sim h1);clear h1 hp gT t0 t1 t2 wp;refine zal rm_xc rfl rfl (by decide) rfl Try.func50 (by kernel_rfl) (by kernel_rfl) ?_;walk_nrm;refine nil50 fun w2 L2=>?_;replace I:=I.left L2;clear L2;rw [Frame.finish_at];walk_nrm;refine zbp 4 2 (by decide) (by decide) (zaf (by kernel_rfl)) fun wp hp=>?_;simp only [yaf,yag,yad,yae];have gA:=(congrArg (·[T+3]?) hp.heap).trans I.an;have k0:=zac gA 0;have k1:=zac gA 1;have f0:=zak gA 0;have f1:=zak gA 1;simp only [yac,yaa,yab] at k0 k1;replace gA:=yay gA;replace hp:=yay hp;replace I:=yay I
 go_wp2_with fail
 refine zat rfl fun w3 h3=>?_;have h3':Sim w3 (wp.setCell ⟨T+3,0,none⟩ (.bool false)):=h3;have I3:=I.out.put (w':=w3) (fun c hc=>by rw [h3'.heap,Below.heap_setCell _ _ _ _ hc,hp.out.heap]) (by rw [h3'.heap];simp [World.setCell,hp.out.heap]) ⟨h3'.outs.1.trans hp.out.outs.1,h3'.outs.2.trans hp.out.outs.2⟩ ((congrArg (·[T+3]?) h3'.heap).trans (zam gA.out 0 (.bool false)));clear h3 h3' hp gA k0 k1 f0 f1 I wp;refine zad rm_xc ?_;rw [za9 _ rfl];exact hr.out _ _ ⟨rfl,rfl,rfl,rfl,rfl⟩ ⟨_,_,I3⟩
theorem nk10 (I:∃ b n,N35 w0 T o b n w) (X:X35 T x) (hret:∀ y w',X35 T y→(∃ b n,N35 w0 T o b n w')→RM Try.prog Z (G ((base 35).at (A35 y) R) cs) w'):RM Try.prog Z (G ((base 35).at (A35 x) (.code (cA (zaz 9))::R)) cs) w:=by
 obtain ⟨b,n,I⟩:=I;have hr:=yay hret;clear hret;rw [show cA (zaz 9)=Code.region _ _ _ from rfl]
 unfold A35;simp only [X.x1,X.x3,X.x5,X.x6,X.x7];refine zcc 3 (by decide) (by decide) (zaf (by kernel_rfl)) fun wp hp=>?_;simp only [yad,yae];have gT:=(congrArg (·[T]?) hp.heap).trans I.t;have t0:=zac gT 0;have t1:=zac gT 1;have t2:=zac gT 2;simp only [yac,yaa,yab] at t0 t1 t2;replace gT:=yay gT;replace hp:=yay hp;replace I:=yay I
 go_wp2_with fail
 refine zat rfl fun w1 h1=>?_;replace I:=I.out.left ((LeftW.of_sim hp.out.heap hp.out.outs).sim h1);clear h1 hp gT t0 t1 t2 wp;refine zal rm_xc rfl rfl (by decide) rfl Try.func51 (by kernel_rfl) (by kernel_rfl) ?_;walk_nrm;refine nil51 fun w2 L2=>?_;replace I:=I.left L2;clear L2;rw [Frame.finish_at];walk_nrm;refine zbp 4 2 (by decide) (by decide) (zaf (by kernel_rfl)) fun wp hp=>?_;simp only [yaf,yag,yad,yae];have gA:=(congrArg (·[T+3]?) hp.heap).trans I.an;have k0:=zac gA 0;have k1:=zac gA 1;have f0:=zak gA 0;have f1:=zak gA 1;simp only [yac,yaa,yab] at k0 k1;replace gA:=yay gA;replace hp:=yay hp;replace I:=yay I
 go_wp2_with fail
 refine zat rfl fun w3 h3=>?_;have h3':Sim w3 (wp.setCell ⟨T+3,0,none⟩ (.bool false)):=h3;have I3:=I.out.put (w':=w3) (fun c hc=>by rw [h3'.heap,Below.heap_setCell _ _ _ _ hc,hp.out.heap]) (by rw [h3'.heap];simp [World.setCell,hp.out.heap]) ⟨h3'.outs.1.trans hp.out.outs.1,h3'.outs.2.trans hp.out.outs.2⟩ ((congrArg (·[T+3]?) h3'.heap).trans (zam gA.out 0 (.bool false)));clear h3 h3' hp gA k0 k1 f0 f1 I wp;refine zad rm_xc ?_;rw [za9 _ rfl];exact hr.out _ _ ⟨rfl,rfl,rfl,rfl,rfl⟩ ⟨_,_,I3⟩
theorem nk11 (I:∃ b n,N35 w0 T o b n w) (X:X35 T x) (hret:∀ y w',X35 T y→(∃ b n,N35 w0 T o b n w')→RM Try.prog Z (G ((base 35).at (A35 y) R) cs) w'):RM Try.prog Z (G ((base 35).at (A35 x) (.code (cA (zaz 10))::R)) cs) w:=by
 obtain ⟨b,n,I⟩:=I;have hr:=yay hret;clear hret;rw [show cA (zaz 10)=Code.region _ _ _ from rfl]
 unfold A35;simp only [X.x1,X.x3,X.x5,X.x6,X.x7];refine zcc 3 (by decide) (by decide) (zaf (by kernel_rfl)) fun wp hp=>?_;simp only [yad,yae];have gT:=(congrArg (·[T]?) hp.heap).trans I.t;have t0:=zac gT 0;have t1:=zac gT 1;have t2:=zac gT 2;simp only [yac,yaa,yab] at t0 t1 t2;replace gT:=yay gT;replace hp:=yay hp;replace I:=yay I
 go_wp2_with fail
 refine zat rfl fun w1 h1=>?_;replace I:=I.out.left ((LeftW.of_sim hp.out.heap hp.out.outs).sim h1);clear h1 hp gT t0 t1 t2 wp;refine zal rm_xc rfl rfl (by decide) rfl Try.func52 (by kernel_rfl) (by kernel_rfl) ?_;walk_nrm;refine nil52 fun w2 L2=>?_;replace I:=I.left L2;clear L2;rw [Frame.finish_at];walk_nrm;refine zbp 4 2 (by decide) (by decide) (zaf (by kernel_rfl)) fun wp hp=>?_;simp only [yaf,yag,yad,yae];have gA:=(congrArg (·[T+3]?) hp.heap).trans I.an;have k0:=zac gA 0;have k1:=zac gA 1;have f0:=zak gA 0;have f1:=zak gA 1;simp only [yac,yaa,yab] at k0 k1;replace gA:=yay gA;replace hp:=yay hp;replace I:=yay I
 go_wp2_with fail
 refine zat rfl fun w3 h3=>?_;have h3':Sim w3 (wp.setCell ⟨T+3,0,none⟩ (.bool false)):=h3;have I3:=I.out.put (w':=w3) (fun c hc=>by rw [h3'.heap,Below.heap_setCell _ _ _ _ hc,hp.out.heap]) (by rw [h3'.heap];simp [World.setCell,hp.out.heap]) ⟨h3'.outs.1.trans hp.out.outs.1,h3'.outs.2.trans hp.out.outs.2⟩ ((congrArg (·[T+3]?) h3'.heap).trans (zam gA.out 0 (.bool false)));clear h3 h3' hp gA k0 k1 f0 f1 I wp;refine zad rm_xc ?_;rw [za9 _ rfl];exact hr.out _ _ ⟨rfl,rfl,rfl,rfl,rfl⟩ ⟨_,_,I3⟩
theorem nk13 (I:∃ b n,N35 w0 T o b n w) (X:X35 T x) (hret:∀ y w',X35 T y→(∃ b n,N35 w0 T o b n w')→RM Try.prog Z (G ((base 35).at (A35 y) R) cs) w'):RM Try.prog Z (G ((base 35).at (A35 x) (.code (cA (zaz 12))::R)) cs) w:=by
 obtain ⟨b,n,I⟩:=I;have hr:=yay hret;clear hret;rw [show cA (zaz 12)=Code.region _ _ _ from rfl]
 unfold A35;simp only [X.x1,X.x3,X.x5,X.x6,X.x7];refine zcc 5 (by decide) (by decide) (zaf (by kernel_rfl)) fun wp hp=>?_;simp only [yad,yae];have gT:=(congrArg (·[T]?) hp.heap).trans I.t;have t0:=zac gT 0;have t1:=zac gT 1;have t2:=zac gT 2;simp only [yac,yaa,yab] at t0 t1 t2;replace gT:=yay gT;have gO:=(congrArg (·[T+1]?) hp.heap).trans I.op;have o2:=zac gO 2;have o3:=zac gO 3;simp only [yac,yaa,yab] at o2 o3;replace gO:=yay gO;replace hp:=yay hp;replace I:=yay I
 go_wp2_with fail
 refine zat rfl fun w1 h1=>?_;replace I:=I.out.left ((LeftW.of_sim hp.out.heap hp.out.outs).sim h1);clear h1 hp gT t0 t1 t2 gO o2 o3 wp;refine zal rm_xc rfl rfl (by decide) rfl Try.func103 (by kernel_rfl) (by kernel_rfl) ?_;walk_nrm;refine nil103 fun w2 L2=>?_;replace I:=I.left L2;clear L2;rw [Frame.finish_at];walk_nrm;refine zad rm_xc ?_;rw [za9 _ rfl];exact hr.out _ _ ⟨rfl,rfl,rfl,rfl,rfl⟩ ⟨_,_,I⟩
theorem nk14 (I:∃ b n,N35 w0 T o b n w) (X:X35 T x) (hret:∀ y w',X35 T y→(∃ b n,N35 w0 T o b n w')→RM Try.prog Z (G ((base 35).at (A35 y) R) cs) w'):RM Try.prog Z (G ((base 35).at (A35 x) (.code (cA (zaz 13))::R)) cs) w:=by
 obtain ⟨b,n,I⟩:=I;have hr:=yay hret;clear hret;rw [show cA (zaz 13)=Code.region _ _ _ from rfl]
 unfold A35;simp only [X.x1,X.x3,X.x5,X.x6,X.x7];refine zcc 5 (by decide) (by decide) (zaf (by kernel_rfl)) fun wp hp=>?_;simp only [yad,yae];have gT:=(congrArg (·[T]?) hp.heap).trans I.t;have t0:=zac gT 0;have t1:=zac gT 1;have t2:=zac gT 2;simp only [yac,yaa,yab] at t0 t1 t2;replace gT:=yay gT;have gO:=(congrArg (·[T+1]?) hp.heap).trans I.op;have o2:=zac gO 2;have o3:=zac gO 3;simp only [yac,yaa,yab] at o2 o3;replace gO:=yay gO;replace hp:=yay hp;replace I:=yay I
 go_wp2_with fail
 refine zat rfl fun w1 h1=>?_;replace I:=I.out.left ((LeftW.of_sim hp.out.heap hp.out.outs).sim h1);clear h1 hp gT t0 t1 t2 gO o2 o3 wp;refine zal rm_xc rfl rfl (by decide) rfl Try.func53 (by kernel_rfl) (by kernel_rfl) ?_;walk_nrm;refine nil53 fun w2 L2=>?_;replace I:=I.left L2;clear L2;rw [Frame.finish_at];walk_nrm;refine zbp 6 2 (by decide) (by decide) (zaf (by kernel_rfl)) fun wp hp=>?_;simp only [yaf,yag,yad,yae];have gA:=(congrArg (·[T+3]?) hp.heap).trans I.an;have k0:=zac gA 0;have k1:=zac gA 1;have f0:=zak gA 0;have f1:=zak gA 1;simp only [yac,yaa,yab] at k0 k1;replace gA:=yay gA;replace hp:=yay hp;replace I:=yay I
 go_wp2_with fail
 refine zat rfl fun w3 h3=>?_;have h3':Sim w3 (wp.setCell ⟨T+3,1,none⟩ (.int .i64 0)):=h3;have I3:=I.out.put (w':=w3) (fun c hc=>by rw [h3'.heap,Below.heap_setCell _ _ _ _ hc,hp.out.heap]) (by rw [h3'.heap];simp [World.setCell,hp.out.heap]) ⟨h3'.outs.1.trans hp.out.outs.1,h3'.outs.2.trans hp.out.outs.2⟩ ((congrArg (·[T+3]?) h3'.heap).trans (zam gA.out 1 (.int .i64 0)));clear h3 h3' hp gA k0 k1 f0 f1 I wp;refine zad rm_xc ?_;rw [za9 _ rfl];exact hr.out _ _ ⟨rfl,rfl,rfl,rfl,rfl⟩ ⟨_,_,I3⟩
theorem nk12 (I:∃ b n,N35 w0 T o b n w) (X:X35 T x) (hret:∀ y w',X35 T y→(∃ b n,N35 w0 T o b n w')→RM Try.prog Z (G ((base 35).at (A35 y) R) cs) w'):RM Try.prog Z (G ((base 35).at (A35 x) (.code (cA (zaz 11))::R)) cs) w:=by
 obtain ⟨b,n,I⟩:=I;have hr:=yay hret;clear hret;refine zan (c:=cA (zaz 11)) rm_xc rfl fun R0 hR0=>?_;rw [show cA (cA (zaz 11))=Code.region _ _ _ from rfl]
 unfold A35;simp only [X.x1,X.x3,X.x5,X.x6,X.x7];refine zcc 3 (by decide) (by decide) (zaf (by kernel_rfl)) fun wp hp=>?_;simp only [yad,yae];have gT:=(congrArg (·[T]?) hp.heap).trans I.t;have t0:=zac gT 0;have t1:=zac gT 1;have t2:=zac gT 2;simp only [yac,yaa,yab] at t0 t1 t2;replace gT:=yay gT;replace hp:=yay hp;replace I:=yay I
 go_wp2_with fail
 refine zat rfl fun w1 h1=>?_;replace I:=I.out.left ((LeftW.of_sim hp.out.heap hp.out.outs).sim h1);clear h1 hp gT t0 t1 t2 wp;refine zal rm_xc rfl rfl (by decide) rfl Try.func54 (by kernel_rfl) (by kernel_rfl) ?_;walk_nrm;refine zux fun w2 L2=>?_;replace I:=I.left L2;clear L2;rw [Frame.finish_at];walk_nrm;obtain ⟨H,hH⟩:∃ H,w2.heap.size=H:=⟨_,rfl⟩;refine zbp 4 2 (by decide) (by decide) (zaf (by kernel_rfl)) fun wp hp=>?_;simp only [yaf,yag,yad,yae];have hHp:Hid (wp.heap.size=H):=yay (by rw [hp.heap];exact hH);replace hp:=yay hp;replace I:=yay I
 go_wp2_with fail
 refine zat rfl fun w3 h3=>?_;have eH:w3.heap[H]?=some (.cells #[.pointer none,.pointer none] 119 (0,0)):=by rw [h3.heap,← hHp.out];exact heap_alloc_new _ _
 rw [hHp.out];replace I:=I.out.left (((LeftW.of_sim hp.out.heap hp.out.outs).alloc _).sim h3);clear h3 hp hHp hH wp;refine zad rm_xc ?_;obtain rfl:=hR0.out;clear hR0;rw [show cB (cA (zaz 11))=Code.region _ _ _ from rfl]
 refine zcc 1 (by decide) (by decide) (zaf (by kernel_rfl)) fun wp hp=>?_;simp only [yad,yae];have gT:=(congrArg (·[T]?) hp.heap).trans I.t;have t0:=zac gT 0;have t1:=zac gT 1;have t2:=zac gT 2;simp only [yac,yaa,yab] at t0 t1 t2;replace gT:=yay gT;have gH:=(congrArg (·[H]?) hp.heap).trans eH;have q0:=zac gH 0;have q1:=zac gH 1;simp only [yac,yaa,yab] at q0 q1;replace gH:=yay gH;replace hp:=yay hp;replace I:=yay I
 go_wp2_with fail
 refine zat rfl fun w1 h1=>?_;replace I:=I.out.left ((LeftW.of_sim hp.out.heap hp.out.outs).sim h1);clear gH q0 q1;clear h1 hp gT t0 t1 t2 wp;refine zal rm_xc rfl rfl (by decide) rfl Try.func55 (by kernel_rfl) (by kernel_rfl) ?_;walk_nrm;refine nil55 fun w2 L2=>?_;replace I:=I.left L2;clear L2;rw [Frame.finish_at];walk_nrm;refine zbp 2 2 (by decide) (by decide) (zaf (by kernel_rfl)) fun wp hp=>?_;simp only [yaf,yag,yad,yae];have gA:=(congrArg (·[T+3]?) hp.heap).trans I.an;have k0:=zac gA 0;have k1:=zac gA 1;have f0:=zak gA 0;have f1:=zak gA 1;simp only [yac,yaa,yab] at k0 k1;replace gA:=yay gA;replace hp:=yay hp;replace I:=yay I
 go_wp2_with fail
 refine zat rfl fun w3 h3=>?_;have h3':Sim w3 (wp.setCell ⟨T+3,1,none⟩ (.int .i64 0)):=h3;have I3:=I.out.put (w':=w3) (fun c hc=>by rw [h3'.heap,Below.heap_setCell _ _ _ _ hc,hp.out.heap]) (by rw [h3'.heap];simp [World.setCell,hp.out.heap]) ⟨h3'.outs.1.trans hp.out.outs.1,h3'.outs.2.trans hp.out.outs.2⟩ ((congrArg (·[T+3]?) h3'.heap).trans (zam gA.out 1 (.int .i64 0)));clear h3 h3' hp gA k0 k1 f0 f1 I wp;refine zad rm_xc ?_;rw [za9 _ rfl];exact hr.out _ _ ⟨rfl,rfl,rfl,rfl,rfl⟩ ⟨_,_,I3⟩
end
def tvN (T H:Nat) (ob:Int):Nat→Option Value
 | 0=>some (.agg #[.pointer none,.pointer none])|1=>some (.int .i64 0)|2=>some (.pointer (some ⟨T+1,2,none⟩))|3=>some (.int .i64 ob)|4=>some (.int .i64 (IntKind.i64.wrap (0+ob)))
 | _=>none
structure JN (T H:Nat) (ob:Int) (W:World) (z:Nat→Value) (listed:Array Bool) (x:Nat→Value) (w:World):Prop where
 xs:∀ j,j < 10→x j=z j
 tab:Tab (tvN T H ob) 153 listed x
 low:LeftW W w
 d:listed.getD 5 false=true→x 10 = .int .i64 (IntKind.i64.wrap (0+ob))
theorem JN.put {T H:Nat} {ob:Int} {W w w':World} {z x:Nat→Value} {listed:Array Bool} (h:JN T H ob W z listed x w) {i:Nat} {u:Value} (hi:i < 5) (ht:tvN T H ob i=some u) (l:LeftW w w'):JN T H ob W z (listed.setIfInBounds i true) (upd x (153+i) u) w' :=
 ⟨fun j hj=>by rw [upd_ne _ _ (by omega)];exact h.xs j hj,h.tab.put (.inl ht),h.low.trans l,fun q=>by rw [upd_ne _ _ (by omega)];exact h.d (by rwa [za0 (by omega)] at q)⟩
section
variable {Z:Machine→Trace→Prop} {cs:List Frame} {W:World} {T H:Nat} {ob:Int} {z:Nat→Value} {R:List Item}
theorem regN35 (z5:z 5 = .pointer (some ⟨T+1,0,none⟩)) (z9:z 9 = .pointer (some ⟨H,0,none⟩)) (h0:W.cell? ⟨H,0,none⟩=some (.pointer none)) (h1:W.cell? ⟨H,1,none⟩=some (.pointer none)) (h2:W.cell? ⟨T+1,2,none⟩=some (.int .i64 ob))
  (hret:∀ x w',(∀ j,j < 10→x j=z j)→x 10 = .int .i64 (IntKind.i64.wrap (0+ob))→LeftW W w'→RM Try.prog Z (G ((base 35).at (A35 x) R) cs) w') :
  RM Try.prog Z (G ((base 35).at (A35 z) (.code (cA (cB (cA (zaz 14))))::R)) cs) W:=by
 have hr':=yay fun (x:Nat→Value) w' (h1:∀ j,j < 10→x j=z j) (h2:x 10 = .int .i64 (IntKind.i64.wrap (0+ob))) h3=>hret x w' h1 h2 h3;clear hret;rw [show cA (cB (cA (zaz 14)))=Code.region _ _ _ from rfl]
 refine ziw rfl (fun listed a w=>∃ x,a=A35 x∧JN T H ob W z listed x w) ?i0 ?ie ?ist
 case i0=>exact ⟨z,rfl,fun _ _=>rfl,.zero,.refl,fun q=>(by rw [getD_replicate_false] at q;cases q)⟩
 case ie =>
  rintro listed a w hsz hrd ⟨x,rfl,hI⟩;have hall:=ze2 (zm9 (by kernel_rfl)) hsz hrd;refine zad rm_xc ?_;exact hr'.out x w hI.xs (hI.d (hall 5 (by decide))) hI.low
 case ist =>
  rintro listed i hsz hir a w3 rr ⟨x,rfl,hI⟩ hnext;obtain ⟨hun,op,hop,hdep⟩:=mem_ready.1 hir;have hi6:i < 6:=by
   have:=(yah.1 hop).1
   simpa using this
  have x5:=(hI.xs 5 (by decide)).trans z5;have x9:=(hI.xs 9 (by decide)).trans z9;have cc:Hid (∀ (a:Addr) v,W.cell? a=some v→∀ wp:World,wp.heap=w3.heap→wp.cell? a=some v):=yay fun a v q wp hp=>by
   refine (World.cell?_of_block (w:=W) ?_).trans q;show wp.heap[a.block]?=W.heap[a.block]?;rw [hp];exact hI.low.same _ (World.block_lt_of_cell? W _ q)
  replace h0:=yay h0;replace h1:=yay h1;replace h2:=yay h2;have hcase:i=0∨i=1∨i=2∨i=3∨i=4∨i=5:=by omega
  rcases hcase with rfl|rfl|rfl|rfl|rfl|rfl
  ·refine zau rfl rfl (by decide) (zaf (l:=[_]) (by kernel_rfl) _ (yaj.2 rfl)) (v := .agg #[.pointer none,.pointer none]) (fun wp hp=>by
    have q_h0:=cc.out _ _ h0.out wp hp.heap;have q_h1:=cc.out _ _ h1.out wp hp.heap;unfold A35
    go_simp<;>rfl) ?_
   exact hnext (A35 (upd x 153 (.agg #[.pointer none,.pointer none]))) w3 ⟨_,rfl,hI.put (by decide) rfl .refl⟩
  ·have hop':=yaw hop;subst hop';have t0:=hI.tab.at (s:=153) (hdep ⟨0,.data⟩ (by simp) rfl) rfl rfl;refine zal rm_xc rfl rfl (by decide) rfl Try.func55 (by kernel_rfl) (by kernel_rfl) ?_;walk_nrm;show RM _ _ (G (Frame.enter Try.prog 55 #[x 153] .normal) _) w3;rw [t0];refine nil55 fun w4 L4=>?_;rw [Frame.finish_at];exact hnext (A35 (upd x 154 (.int .i64 0))) w4 ⟨_,rfl,hI.put (by decide) rfl L4⟩
  ·refine zau rfl rfl (by decide) (zaf (l:=[_]) (by kernel_rfl) _ (yaj.2 rfl)) (v := .pointer (some ⟨T+1,2,none⟩)) (fun wp hp=>by
    unfold A35
    go_simp<;>rfl) ?_
   exact hnext (A35 (upd x 155 (.pointer (some ⟨T+1,2,none⟩)))) w3 ⟨_,rfl,hI.put (by decide) rfl .refl⟩
  ·have hop':=yaw hop;subst hop';have t2:=hI.tab.at (s:=155) (hdep ⟨2,.data⟩ (by simp) rfl) rfl rfl;refine zau rfl rfl (by decide) (zaf (l:=[_]) (by kernel_rfl) _ (yaj.2 rfl)) (v := .int .i64 ob) (fun wp hp=>by
    have q_h2:=cc.out _ _ h2.out wp hp.heap;unfold A35
    go_simp<;>rfl) ?_
   exact hnext (A35 (upd x 156 (.int .i64 ob))) w3 ⟨_,rfl,hI.put (by decide) rfl .refl⟩
  ·have hop':=yaw hop;subst hop';have t1:=hI.tab.at (s:=154) (hdep ⟨1,.data⟩ (by simp) rfl) rfl rfl;have t3:=hI.tab.at (s:=156) (hdep ⟨3,.data⟩ (by simp) rfl) rfl rfl;refine zau rfl rfl (by decide) (zaf (l:=[_]) (by kernel_rfl) _ (yaj.2 rfl)) (v := .int .i64 (IntKind.i64.wrap (0+ob))) (fun wp hp=>by
    unfold A35
    go_simp<;>rfl) ?_
   exact hnext (A35 (upd x 157 (.int .i64 (IntKind.i64.wrap (0+ob))))) w3 ⟨_,rfl,hI.put (by decide) rfl .refl⟩
  ·have hop':=yaw hop;subst hop';have t4:=hI.tab.at (s:=157) (hdep ⟨4,.data⟩ (by simp) rfl) rfl rfl;refine zau rfl rfl (by decide) (zaf (l:=[_]) (by kernel_rfl) _ (yaj.2 rfl)) (v := .int .i64 (IntKind.i64.wrap (0+ob))) (fun wp hp=>by
    unfold A35
    go_simp<;>rfl) ?_
   exact hnext (A35 (upd x 10 (.int .i64 (IntKind.i64.wrap (0+ob))))) w3 ⟨_,rfl,fun j hj=>by rw [upd_ne _ _ (by omega)];exact hI.xs j hj,fun j u hj hl=>by
    have hne:j≠5:=fun e=>by rw [e] at hj;cases hj
    rw [za0 hne] at hl;rw [upd_ne _ _ (by omega)];exact hI.tab j u hj hl,hI.low,fun _=>rfl⟩
end
section
variable {Z:Machine→Trace→Prop} {cs:List Frame} {w0 w:World} {T:Nat} {o:OpD} {b:Bool} {n:Int} {x:Nat→Value} {R:List Item}
theorem nk15 (I:∃ b n,N35 w0 T o b n w) (X:X35 T x) (hret:∀ y w',X35 T y→(∃ b n,N35 w0 T o b n w')→RM Try.prog Z (G ((base 35).at (A35 y) R) cs) w'):RM Try.prog Z (G ((base 35).at (A35 x) (.code (cA (zaz 14))::R)) cs) w:=by
 obtain ⟨b,n,I⟩:=I;have hr:=yay hret;clear hret;refine zan (c:=cA (zaz 14)) rm_xc rfl fun R0 hR0=>?_;rw [show cA (cA (zaz 14))=Code.region _ _ _ from rfl]
 unfold A35;simp only [X.x1,X.x3,X.x5,X.x6,X.x7];refine zcc 3 (by decide) (by decide) (zaf (by kernel_rfl)) fun wp hp=>?_;simp only [yad,yae];have gT:=(congrArg (·[T]?) hp.heap).trans I.t;have t0:=zac gT 0;have t1:=zac gT 1;have t2:=zac gT 2;simp only [yac,yaa,yab] at t0 t1 t2;replace gT:=yay gT;replace hp:=yay hp;replace I:=yay I
 go_wp2_with fail
 refine zat rfl fun w1 h1=>?_;replace I:=I.out.left ((LeftW.of_sim hp.out.heap hp.out.outs).sim h1);clear h1 hp gT t0 t1 t2 wp;refine zal rm_xc rfl rfl (by decide) rfl Try.func54 (by kernel_rfl) (by kernel_rfl) ?_;walk_nrm;refine zux fun w2 L2=>?_;replace I:=I.left L2;clear L2;rw [Frame.finish_at];walk_nrm;obtain ⟨H,hH⟩:∃ H,w2.heap.size=H:=⟨_,rfl⟩;refine zbp 4 2 (by decide) (by decide) (zaf (by kernel_rfl)) fun wp hp=>?_;simp only [yaf,yag,yad,yae];have hHp:Hid (wp.heap.size=H):=yay (by rw [hp.heap];exact hH);replace hp:=yay hp;replace I:=yay I
 go_wp2_with fail
 refine zat rfl fun w3 h3=>?_;have eH:w3.heap[H]?=some (.cells #[.pointer none,.pointer none] 119 (0,0)):=by rw [h3.heap,← hHp.out];exact heap_alloc_new _ _
 rw [hHp.out];replace I:=I.out.left (((LeftW.of_sim hp.out.heap hp.out.outs).alloc _).sim h3);clear h3 hp hHp hH wp;refine zad rm_xc ?_;obtain rfl:=hR0.out;clear hR0;refine zan (c:=cB (cA (zaz 14))) rm_xc rfl fun R0 hR0=>?_;rw [za9 _ rfl];have gO:=I.op;have q0:=zac eH 0;have q1:=zac eH 1;have o2:=zac gO 2;simp only [yac,yaa,yab] at q0 q1 o2;refine regN35 (H:=H) rfl rfl q0 q1 o2 fun y w4 hy y10 L4=>?_;replace I:=I.left L4;have eH4:=(L4.same H (yah.1 eH).1).trans eH;have y1:=(hy 1 (by decide)).trans rfl;have y3:=(hy 3 (by decide)).trans rfl;have y5:=(hy 5 (by decide)).trans rfl;have y6:=(hy 6 (by decide)).trans rfl;have y7:=(hy 7 (by decide)).trans rfl;have y9:=(hy 9 (by decide)).trans rfl;clear gO q0 q1 o2 L4 hy eH;obtain rfl:=hR0.out;clear hR0;refine zan (c:=cB (cB (cA (zaz 14)))) rm_xc rfl fun R0 hR0=>?_;rw [show cA (cB (cB (cA (zaz 14))))=Code.region _ _ _ from rfl]
 unfold A35;simp only [y1,y3,y5,y6,y7,y9,y10];clear y1 y3 y5 y6 y7 y9 y10;refine zcc 5 (by decide) (by decide) (zaf (by kernel_rfl)) fun wp hp=>?_;simp only [yad,yae];have gT:=(congrArg (·[T]?) hp.heap).trans I.t;have t0:=zac gT 0;have t1:=zac gT 1;have t2:=zac gT 2;simp only [yac,yaa,yab] at t0 t1 t2;replace gT:=yay gT;have gH:=(congrArg (·[H]?) hp.heap).trans eH4;have q0:=zac gH 0;have q1:=zac gH 1;simp only [yac,yaa,yab] at q0 q1;replace gH:=yay gH;replace hp:=yay hp;replace I:=yay I
 go_wp2_with fail
 refine zat rfl fun w1 h1=>?_;replace I:=I.out.left ((LeftW.of_sim hp.out.heap hp.out.outs).sim h1);clear gH q0 q1 eH4;clear h1 hp gT t0 t1 t2 wp;refine zal rm_xc rfl rfl (by decide) rfl Try.func56 (by kernel_rfl) (by kernel_rfl) ?_;walk_nrm;refine nil56 fun w2 L2=>?_;replace I:=I.left L2;clear L2;rw [Frame.finish_at];walk_nrm;refine zbp 6 2 (by decide) (by decide) (zaf (by kernel_rfl)) fun wp hp=>?_;simp only [yaf,yag,yad,yae];have gA:=(congrArg (·[T+3]?) hp.heap).trans I.an;have k0:=zac gA 0;have k1:=zac gA 1;have f0:=zak gA 0;have f1:=zak gA 1;simp only [yac,yaa,yab] at k0 k1;replace gA:=yay gA;replace hp:=yay hp;replace I:=yay I
 go_wp2_with fail
 refine zat rfl fun w3 h3=>?_;have h3':Sim w3 (wp.setCell ⟨T+3,0,none⟩ (.bool false)):=h3;have I3:=I.out.put (w':=w3) (fun c hc=>by rw [h3'.heap,Below.heap_setCell _ _ _ _ hc,hp.out.heap]) (by rw [h3'.heap];simp [World.setCell,hp.out.heap]) ⟨h3'.outs.1.trans hp.out.outs.1,h3'.outs.2.trans hp.out.outs.2⟩ ((congrArg (·[T+3]?) h3'.heap).trans (zam gA.out 0 (.bool false)));clear h3 h3' hp gA k0 k1 f0 f1 I wp;refine zad rm_xc ?_;obtain rfl:=hR0.out;clear hR0;replace I:=I3;clear I3;rw [show cB (cB (cB (cA (zaz 14))))=Code.seq _ _ from rfl]
 refine zah rm_xc fun R0 hR0=>?_;refine zav zct (zab zae (by kernel_rfl)) rfl (zaa Try.func35) rfl fun wp hp=>?_;have gA:=(congrArg (·[T+3]?) hp.heap).trans I.an;have k0:=zac gA 0;simp only [yac,yaa,yab] at k0;replace gA:=yay gA;replace hp:=yay hp;replace I:=yay I
 go_wp2_with fail
 refine fun w5 h5=>?_;replace I:=I.out.left ((LeftW.of_sim hp.out.heap hp.out.outs).sim h5);clear h5 hp gA k0 wp;obtain rfl:=hR0.out;clear hR0;refine zaj rm_xc (t:=false) rfl ?_;refine zbh rm_xc ?_;rw [za9 _ rfl];exact hr.out _ _ ⟨rfl,rfl,rfl,rfl,rfl⟩ ⟨_,_,I⟩
end
section
variable {Z:Machine→Trace→Prop} {c:Frame} {cs:List Frame} {w0 w:World} {T:Nat} {o:OpD} {x:Nat→Value}
theorem zc7 (I:∃ b n,N35 w0 T o b n w) (X:X35 T x) (h:∀ v w',LeftW w0 w'→RM Try.prog Z (G (c.finish v) cs) w'):RM Try.prog Z (G ((base 35).at (A35 x) [.code zee]) (c::cs)) w:=by
 obtain ⟨b,n,I⟩:=I;replace h:=yay h;refine zan (c:=zee) rm_xc rfl fun R0 hR0=>?_;rw [show cA zee=Code.region _ _ _ from rfl]
 unfold A35;simp only [X.x6,X.x7];refine zcc 2 (by decide) (by decide) (zaf (by kernel_rfl)) fun wp hp=>?_;simp only [yad,yae];have hg:=(congrArg (·[T+2]?) hp.heap).trans I.res;have hk:=(congrArg (·[T+3]?) hp.heap).trans I.an;have k0:=zac hk 0;have k1:=zac hk 1;have k2:=zac hk 2;have c0:=zac hg 0;have c1:=zac hg 1;have c2:=zac hg 2;have z0:=zak hg 0;have z1:=zak hg 1;have z2:=zak hg 2;simp only [yac,yaa,yab] at c0 c1 c2 k0 k1 k2;replace hg:=yay hg;replace hk:=yay hk;replace hp:=yay hp;replace I:=yay I
 go_wp2_with fail
 refine zat rfl fun w1 h1=>?_;have h1':Sim w1 (zh5 wp (T+2) ⟨b,n,[]⟩ (.slice none 0 0)):=h1;have e1:w1.heap[T+2]?=some (.cells #[.bool b,.int .i64 n,.slice none 0 0] 42 (0,0)):=by rw [h1'.heap];exact zh4 hg.out rfl ⟨b,n,[]⟩ _
 have L1:LeftW w0 w1:=by
  have hlo:=I.out.lo;refine ⟨fun a ha=>?_,?_,?_⟩
  ·rw [h1'.heap,zel (show a≠T+2 by omega),hp.out.heap];exact I.out.l.same a ha
  ·have e:w1.heap.size=w.heap.size:=by rw [h1'.heap,ze0,hp.out.heap]
   have:=I.out.l.size;omega
  ·exact ⟨h1'.outs.1.trans ((zdr _ _ _ _).1.trans (hp.out.outs.1.trans I.out.l.outs.1)),h1'.outs.2.trans ((zdr _ _ _ _).2.trans (hp.out.outs.2.trans I.out.l.outs.2))⟩
 clear hg hk hp c0 c1 c2 z0 z1 z2 k0 k1 k2 I wp h1 h1';refine zad rm_xc ?_;obtain rfl:=hR0.out;clear hR0;rw [show cB zee=Code.ret from rfl]
 refine zb1 rm_xc ?_;refine zay rm_xc (zaa Try.func35) (za4 _) (v := .agg #[.bool b,.int .i64 n,.slice none 0 0]) (by rw [zbj];exact ⟨rfl,rfl,rfl,_,Try.func35,results_cell_row rfl _ _ (T+2) 42 _ (0,0) _ rfl e1 Try.underlying42 rfl (by kernel_rfl)⟩) ?_;exact h.out _ _ L1
theorem zqw (h:∀ v w',LeftW w w'→RM Try.prog Z (G (c.finish v) cs) w'):RM Try.prog Z (G (Frame.enter Try.prog 35 #[.agg #[.pointer none,.pointer none,.pointer none],.nilIface,opV o] .normal) (c::cs)) w:=by
 obtain ⟨ok,oa,ob,oc⟩:=o;unfold opV;rw [enter_at _ Try.func35 rfl];simp only [Try.ntmps35,yan,yau,yav,Nat.reduceAdd,Nat.reduceSub,yao,
   yap,yaq,yar,yas,yat]
 obtain ⟨T,hT⟩:∃ T,w.heap.size=T:=⟨_,rfl⟩;replace h:=yay h;refine zan (c:=c35) rm_xc rfl fun R0 hR0=>?_;rw [show cA c35=Code.region _ _ _ from rfl]
 refine zav zct (zab zae (by kernel_rfl)) rfl (zaa Try.func35) rfl fun wp hp=>?_;have sp:wp.heap.size=T:=by rw [hp.heap];exact hT
 replace hp:=yay hp;replace sp:=yay sp
 go_wp2_with fail
 refine fun w1 h1=>?_;obtain ⟨e0,e1,e2⟩:=ztv (w:=wp) (W:=w1) sp.out h1.heap;have L1:LeftW w w1:=((((LeftW.of_sim hp.out.heap hp.out.outs).alloc _).alloc _).alloc _).sim h1;have s1:w1.heap.size=T+3:=by rw [h1.heap];simp [sp.out]
 rw [sp.out];clear h1 hp sp wp;obtain rfl:=hR0.out;clear hR0;refine zan (c:=cB c35) rm_xc rfl fun R0 hR0=>?_;rw [show cA (cB c35)=Code.region _ _ _ from rfl]
 refine zav zct (zab zae (by kernel_rfl)) rfl (zaa Try.func35) rfl fun wp hp=>?_;have sp:wp.heap.size=T+3:=by rw [hp.heap];exact s1
 replace hp:=yay hp;replace sp:=yay sp;replace s1:=yay s1;replace hT:=yay hT
 go_wp2_with fail
 refine fun w2 h2=>?_;have e3:w2.heap[T+3]?=some (.cells #[.bool true,.int .i64 0,.slice none 0 0] 42 (0,0)):=by rw [h2.heap,← sp.out];exact heap_alloc_new _ _
 have L2:LeftW w1 w2:=((LeftW.of_sim hp.out.heap hp.out.outs).alloc _).sim h2;rw [sp.out];clear h2 hp sp wp;obtain rfl:=hR0.out;clear hR0;have k:∀ {b:Nat} {o:Obj},w1.heap[b]?=some o→w2.heap[b]?=some o:=fun {b o} e=>(L2.same b (yah.1 e).1).trans e;have I:N35 w T ⟨ok,oa,ob,oc⟩ true 0 w2:=⟨L1.trans L2,by have:=hT.out;omega,k e0,k e1,k e2,e3⟩;clear k e0 e1 e2 e3 L1 L2 s1 hT;refine zan (c:=cB (cB c35)) rm_xc rfl fun R0 hR0=>?_;refine zan (c:=cA (cB (cB c35))) rm_xc rfl fun R1 hR1=>?_;rw [show cA (cA (cB (cB c35)))=Code.region _ _ _ from rfl]
 refine zav zct (zab zae (by kernel_rfl)) rfl (zaa Try.func35) rfl fun wp hp=>?_;have gO:=(congrArg (·[T+1]?) hp.heap).trans I.op;have o0:=zac gO 0;simp only [yac,yaa,yab] at o0;replace gO:=yay gO;replace hp:=yay hp;replace I:=yay I
 go_wp2_with fail
 refine fun w3 h3=>?_;replace I:=I.out.left ((LeftW.of_sim hp.out.heap hp.out.outs).sim h3);clear h3 hp gO o0 wp;obtain rfl:=hR1.out;clear hR1;rw [show cB (cA (cB (cB c35)))=Code.block _ (cA (cB (cA (cB (cB c35))))) from rfl]
 refine zb2 rm_xc ?_;refine zan (c:=cA (cB (cA (cB (cB c35))))) rm_xc rfl fun R1 hR1=>?_;rw [show cA (cA (cB (cA (cB (cB c35)))))=Code.region _ _ _ from rfl]
 refine zav zct (zab zae (by kernel_rfl)) rfl (zaa Try.func35) rfl fun wp hp=>?_;replace hp:=yay hp;replace I:=yay I
 go_wp2_with fail
 refine fun w4 h4=>?_;replace I:=I.out.left ((LeftW.of_sim hp.out.heap hp.out.outs).sim h4);clear h4 hp wp;obtain rfl:=hR1.out;clear hR1;rw [show cB (cA (cB (cA (cB (cB c35)))))=Code.cond _ (cA (zaz 0)) (cB (zaz 0)) from rfl]
 by_cases k1:ok=1
 ·have hz:(ok==1)=true:=by simpa using k1
  refine zaj rm_xc (t:=true) (by show Value.bool (ok==1)=_;rw [hz]) ?_;rw [if_pos rfl];obtain rfl:=hR0.out;rw [za9 _ rfl];refine nk1 ⟨_,_,I⟩ ⟨rfl,rfl,rfl,rfl,rfl⟩ fun y w5 X5 I5=>?_;refine zaq rm_xc ?_;exact zc7 I5 X5 h.out
 have hz1:(ok==1)=false:=by simpa using k1
 refine zaj rm_xc (t:=false) (by show Value.bool (ok==1)=_;rw [hz1]) ?_;rw [if_neg Bool.false_ne_true];clear hz1 k1;refine zan (c:=cB (zaz 0)) rm_xc rfl fun R1 hR1=>?_;rw [show cA (cB (zaz 0))=Code.region _ _ _ from rfl]
 refine zav zct (zab zae (by kernel_rfl)) rfl (zaa Try.func35) rfl fun wp hp=>?_;replace hp:=yay hp;replace I:=yay I
 go_wp2_with fail
 refine fun w4 h4=>?_;replace I:=I.out.left ((LeftW.of_sim hp.out.heap hp.out.outs).sim h4);clear h4 hp wp;obtain rfl:=hR1.out;clear hR1;rw [show cB (cB (zaz 0))=Code.cond _ (cA (zaz 1)) (cB (zaz 1)) from rfl]
 by_cases k2:ok=2
 ·have hz:(ok==2)=true:=by simpa using k2
  refine zaj rm_xc (t:=true) (by show Value.bool (ok==2)=_;rw [hz]) ?_;rw [if_pos rfl];obtain rfl:=hR0.out;rw [za9 _ rfl];refine nk2 ⟨_,_,I⟩ ⟨rfl,rfl,rfl,rfl,rfl⟩ fun y w5 X5 I5=>?_;refine zaq rm_xc ?_;exact zc7 I5 X5 h.out
 have hz2:(ok==2)=false:=by simpa using k2
 refine zaj rm_xc (t:=false) (by show Value.bool (ok==2)=_;rw [hz2]) ?_;rw [if_neg Bool.false_ne_true];clear hz2 k2;refine zan (c:=cB (zaz 1)) rm_xc rfl fun R1 hR1=>?_;rw [show cA (cB (zaz 1))=Code.region _ _ _ from rfl]
 refine zav zct (zab zae (by kernel_rfl)) rfl (zaa Try.func35) rfl fun wp hp=>?_;replace hp:=yay hp;replace I:=yay I
 go_wp2_with fail
 refine fun w4 h4=>?_;replace I:=I.out.left ((LeftW.of_sim hp.out.heap hp.out.outs).sim h4);clear h4 hp wp;obtain rfl:=hR1.out;clear hR1;rw [show cB (cB (zaz 1))=Code.cond _ (cA (zaz 2)) (cB (zaz 2)) from rfl]
 by_cases k3:ok=3
 ·have hz:(ok==3)=true:=by simpa using k3
  refine zaj rm_xc (t:=true) (by show Value.bool (ok==3)=_;rw [hz]) ?_;rw [if_pos rfl];obtain rfl:=hR0.out;rw [za9 _ rfl];refine nk3 ⟨_,_,I⟩ ⟨rfl,rfl,rfl,rfl,rfl⟩ fun y w5 X5 I5=>?_;refine zaq rm_xc ?_;exact zc7 I5 X5 h.out
 have hz3:(ok==3)=false:=by simpa using k3
 refine zaj rm_xc (t:=false) (by show Value.bool (ok==3)=_;rw [hz3]) ?_;rw [if_neg Bool.false_ne_true];clear hz3 k3;refine zan (c:=cB (zaz 2)) rm_xc rfl fun R1 hR1=>?_;rw [show cA (cB (zaz 2))=Code.region _ _ _ from rfl]
 refine zav zct (zab zae (by kernel_rfl)) rfl (zaa Try.func35) rfl fun wp hp=>?_;replace hp:=yay hp;replace I:=yay I
 go_wp2_with fail
 refine fun w4 h4=>?_;replace I:=I.out.left ((LeftW.of_sim hp.out.heap hp.out.outs).sim h4);clear h4 hp wp;obtain rfl:=hR1.out;clear hR1;rw [show cB (cB (zaz 2))=Code.cond _ (cA (zaz 3)) (cB (zaz 3)) from rfl]
 by_cases k4:ok=4
 ·have hz:(ok==4)=true:=by simpa using k4
  refine zaj rm_xc (t:=true) (by show Value.bool (ok==4)=_;rw [hz]) ?_;rw [if_pos rfl];obtain rfl:=hR0.out;rw [za9 _ rfl];refine nk4 ⟨_,_,I⟩ ⟨rfl,rfl,rfl,rfl,rfl⟩ fun y w5 X5 I5=>?_;refine zaq rm_xc ?_;exact zc7 I5 X5 h.out
 have hz4:(ok==4)=false:=by simpa using k4
 refine zaj rm_xc (t:=false) (by show Value.bool (ok==4)=_;rw [hz4]) ?_;rw [if_neg Bool.false_ne_true];clear hz4 k4;refine zan (c:=cB (zaz 3)) rm_xc rfl fun R1 hR1=>?_;rw [show cA (cB (zaz 3))=Code.region _ _ _ from rfl]
 refine zav zct (zab zae (by kernel_rfl)) rfl (zaa Try.func35) rfl fun wp hp=>?_;replace hp:=yay hp;replace I:=yay I
 go_wp2_with fail
 refine fun w4 h4=>?_;replace I:=I.out.left ((LeftW.of_sim hp.out.heap hp.out.outs).sim h4);clear h4 hp wp;obtain rfl:=hR1.out;clear hR1;rw [show cB (cB (zaz 3))=Code.cond _ (cA (zaz 4)) (cB (zaz 4)) from rfl]
 by_cases k5:ok=5
 ·have hz:(ok==5)=true:=by simpa using k5
  refine zaj rm_xc (t:=true) (by show Value.bool (ok==5)=_;rw [hz]) ?_;rw [if_pos rfl];obtain rfl:=hR0.out;rw [za9 _ rfl];refine nk5 ⟨_,_,I⟩ ⟨rfl,rfl,rfl,rfl,rfl⟩ fun y w5 X5 I5=>?_;refine zaq rm_xc ?_;exact zc7 I5 X5 h.out
 have hz5:(ok==5)=false:=by simpa using k5
 refine zaj rm_xc (t:=false) (by show Value.bool (ok==5)=_;rw [hz5]) ?_;rw [if_neg Bool.false_ne_true];clear hz5 k5;refine zan (c:=cB (zaz 4)) rm_xc rfl fun R1 hR1=>?_;rw [show cA (cB (zaz 4))=Code.region _ _ _ from rfl]
 refine zav zct (zab zae (by kernel_rfl)) rfl (zaa Try.func35) rfl fun wp hp=>?_;replace hp:=yay hp;replace I:=yay I
 go_wp2_with fail
 refine fun w4 h4=>?_;replace I:=I.out.left ((LeftW.of_sim hp.out.heap hp.out.outs).sim h4);clear h4 hp wp;obtain rfl:=hR1.out;clear hR1;rw [show cB (cB (zaz 4))=Code.cond _ (cA (zaz 5)) (cB (zaz 5)) from rfl]
 by_cases k6:ok=6
 ·have hz:(ok==6)=true:=by simpa using k6
  refine zaj rm_xc (t:=true) (by show Value.bool (ok==6)=_;rw [hz]) ?_;rw [if_pos rfl];obtain rfl:=hR0.out;rw [za9 _ rfl];refine nk6 ⟨_,_,I⟩ ⟨rfl,rfl,rfl,rfl,rfl⟩ fun y w5 X5 I5=>?_;refine zaq rm_xc ?_;exact zc7 I5 X5 h.out
 have hz6:(ok==6)=false:=by simpa using k6
 refine zaj rm_xc (t:=false) (by show Value.bool (ok==6)=_;rw [hz6]) ?_;rw [if_neg Bool.false_ne_true];clear hz6 k6;refine zan (c:=cB (zaz 5)) rm_xc rfl fun R1 hR1=>?_;rw [show cA (cB (zaz 5))=Code.region _ _ _ from rfl]
 refine zav zct (zab zae (by kernel_rfl)) rfl (zaa Try.func35) rfl fun wp hp=>?_;replace hp:=yay hp;replace I:=yay I
 go_wp2_with fail
 refine fun w4 h4=>?_;replace I:=I.out.left ((LeftW.of_sim hp.out.heap hp.out.outs).sim h4);clear h4 hp wp;obtain rfl:=hR1.out;clear hR1;rw [show cB (cB (zaz 5))=Code.cond _ (cA (zaz 6)) (cB (zaz 6)) from rfl]
 by_cases k7:ok=7
 ·have hz:(ok==7)=true:=by simpa using k7
  refine zaj rm_xc (t:=true) (by show Value.bool (ok==7)=_;rw [hz]) ?_;rw [if_pos rfl];obtain rfl:=hR0.out;rw [za9 _ rfl];refine nk7 ⟨_,_,I⟩ ⟨rfl,rfl,rfl,rfl,rfl⟩ fun y w5 X5 I5=>?_;refine zaq rm_xc ?_;exact zc7 I5 X5 h.out
 have hz7:(ok==7)=false:=by simpa using k7
 refine zaj rm_xc (t:=false) (by show Value.bool (ok==7)=_;rw [hz7]) ?_;rw [if_neg Bool.false_ne_true];clear hz7 k7;refine zan (c:=cB (zaz 6)) rm_xc rfl fun R1 hR1=>?_;rw [show cA (cB (zaz 6))=Code.region _ _ _ from rfl]
 refine zav zct (zab zae (by kernel_rfl)) rfl (zaa Try.func35) rfl fun wp hp=>?_;replace hp:=yay hp;replace I:=yay I
 go_wp2_with fail
 refine fun w4 h4=>?_;replace I:=I.out.left ((LeftW.of_sim hp.out.heap hp.out.outs).sim h4);clear h4 hp wp;obtain rfl:=hR1.out;clear hR1;rw [show cB (cB (zaz 6))=Code.cond _ (cA (zaz 7)) (cB (zaz 7)) from rfl]
 by_cases k8:ok=8
 ·have hz:(ok==8)=true:=by simpa using k8
  refine zaj rm_xc (t:=true) (by show Value.bool (ok==8)=_;rw [hz]) ?_;rw [if_pos rfl];obtain rfl:=hR0.out;rw [za9 _ rfl];refine nk8 ⟨_,_,I⟩ ⟨rfl,rfl,rfl,rfl,rfl⟩ fun y w5 X5 I5=>?_;refine zaq rm_xc ?_;exact zc7 I5 X5 h.out
 have hz8:(ok==8)=false:=by simpa using k8
 refine zaj rm_xc (t:=false) (by show Value.bool (ok==8)=_;rw [hz8]) ?_;rw [if_neg Bool.false_ne_true];clear hz8 k8;refine zan (c:=cB (zaz 7)) rm_xc rfl fun R1 hR1=>?_;rw [show cA (cB (zaz 7))=Code.region _ _ _ from rfl]
 refine zav zct (zab zae (by kernel_rfl)) rfl (zaa Try.func35) rfl fun wp hp=>?_;replace hp:=yay hp;replace I:=yay I
 go_wp2_with fail
 refine fun w4 h4=>?_;replace I:=I.out.left ((LeftW.of_sim hp.out.heap hp.out.outs).sim h4);clear h4 hp wp;obtain rfl:=hR1.out;clear hR1;rw [show cB (cB (zaz 7))=Code.cond _ (cA (zaz 8)) (cB (zaz 8)) from rfl]
 by_cases k9:ok=9
 ·have hz:(ok==9)=true:=by simpa using k9
  refine zaj rm_xc (t:=true) (by show Value.bool (ok==9)=_;rw [hz]) ?_;rw [if_pos rfl];obtain rfl:=hR0.out;rw [za9 _ rfl];refine nk9 ⟨_,_,I⟩ ⟨rfl,rfl,rfl,rfl,rfl⟩ fun y w5 X5 I5=>?_;refine zaq rm_xc ?_;exact zc7 I5 X5 h.out
 have hz9:(ok==9)=false:=by simpa using k9
 refine zaj rm_xc (t:=false) (by show Value.bool (ok==9)=_;rw [hz9]) ?_;rw [if_neg Bool.false_ne_true];clear hz9 k9;refine zan (c:=cB (zaz 8)) rm_xc rfl fun R1 hR1=>?_;rw [show cA (cB (zaz 8))=Code.region _ _ _ from rfl]
 refine zav zct (zab zae (by kernel_rfl)) rfl (zaa Try.func35) rfl fun wp hp=>?_;replace hp:=yay hp;replace I:=yay I
 go_wp2_with fail
 refine fun w4 h4=>?_;replace I:=I.out.left ((LeftW.of_sim hp.out.heap hp.out.outs).sim h4);clear h4 hp wp;obtain rfl:=hR1.out;clear hR1;rw [show cB (cB (zaz 8))=Code.cond _ (cA (zaz 9)) (cB (zaz 9)) from rfl]
 by_cases k10:ok=10
 ·have hz:(ok==10)=true:=by simpa using k10
  refine zaj rm_xc (t:=true) (by show Value.bool (ok==10)=_;rw [hz]) ?_;rw [if_pos rfl];obtain rfl:=hR0.out;rw [za9 _ rfl];refine nk10 ⟨_,_,I⟩ ⟨rfl,rfl,rfl,rfl,rfl⟩ fun y w5 X5 I5=>?_;refine zaq rm_xc ?_;exact zc7 I5 X5 h.out
 have hz10:(ok==10)=false:=by simpa using k10
 refine zaj rm_xc (t:=false) (by show Value.bool (ok==10)=_;rw [hz10]) ?_;rw [if_neg Bool.false_ne_true];clear hz10 k10;refine zan (c:=cB (zaz 9)) rm_xc rfl fun R1 hR1=>?_;rw [show cA (cB (zaz 9))=Code.region _ _ _ from rfl]
 refine zav zct (zab zae (by kernel_rfl)) rfl (zaa Try.func35) rfl fun wp hp=>?_;replace hp:=yay hp;replace I:=yay I
 go_wp2_with fail
 refine fun w4 h4=>?_;replace I:=I.out.left ((LeftW.of_sim hp.out.heap hp.out.outs).sim h4);clear h4 hp wp;obtain rfl:=hR1.out;clear hR1;rw [show cB (cB (zaz 9))=Code.cond _ (cA (zaz 10)) (cB (zaz 10)) from rfl]
 by_cases k11:ok=11
 ·have hz:(ok==11)=true:=by simpa using k11
  refine zaj rm_xc (t:=true) (by show Value.bool (ok==11)=_;rw [hz]) ?_;rw [if_pos rfl];obtain rfl:=hR0.out;rw [za9 _ rfl];refine nk11 ⟨_,_,I⟩ ⟨rfl,rfl,rfl,rfl,rfl⟩ fun y w5 X5 I5=>?_;refine zaq rm_xc ?_;exact zc7 I5 X5 h.out
 have hz11:(ok==11)=false:=by simpa using k11
 refine zaj rm_xc (t:=false) (by show Value.bool (ok==11)=_;rw [hz11]) ?_;rw [if_neg Bool.false_ne_true];clear hz11 k11;refine zan (c:=cB (zaz 10)) rm_xc rfl fun R1 hR1=>?_;rw [show cA (cB (zaz 10))=Code.region _ _ _ from rfl]
 refine zav zct (zab zae (by kernel_rfl)) rfl (zaa Try.func35) rfl fun wp hp=>?_;replace hp:=yay hp;replace I:=yay I
 go_wp2_with fail
 refine fun w4 h4=>?_;replace I:=I.out.left ((LeftW.of_sim hp.out.heap hp.out.outs).sim h4);clear h4 hp wp;obtain rfl:=hR1.out;clear hR1;rw [show cB (cB (zaz 10))=Code.cond _ (cA (zaz 11)) (cB (zaz 11)) from rfl]
 by_cases k12:ok=12
 ·have hz:(ok==12)=true:=by simpa using k12
  refine zaj rm_xc (t:=true) (by show Value.bool (ok==12)=_;rw [hz]) ?_;rw [if_pos rfl];obtain rfl:=hR0.out;rw [za9 _ rfl];refine nk12 ⟨_,_,I⟩ ⟨rfl,rfl,rfl,rfl,rfl⟩ fun y w5 X5 I5=>?_;refine zaq rm_xc ?_;exact zc7 I5 X5 h.out
 have hz12:(ok==12)=false:=by simpa using k12
 refine zaj rm_xc (t:=false) (by show Value.bool (ok==12)=_;rw [hz12]) ?_;rw [if_neg Bool.false_ne_true];clear hz12 k12;refine zan (c:=cB (zaz 11)) rm_xc rfl fun R1 hR1=>?_;rw [show cA (cB (zaz 11))=Code.region _ _ _ from rfl]
 refine zav zct (zab zae (by kernel_rfl)) rfl (zaa Try.func35) rfl fun wp hp=>?_;replace hp:=yay hp;replace I:=yay I
 go_wp2_with fail
 refine fun w4 h4=>?_;replace I:=I.out.left ((LeftW.of_sim hp.out.heap hp.out.outs).sim h4);clear h4 hp wp;obtain rfl:=hR1.out;clear hR1;rw [show cB (cB (zaz 11))=Code.cond _ (cA (zaz 12)) (cB (zaz 12)) from rfl]
 by_cases k13:ok=13
 ·have hz:(ok==13)=true:=by simpa using k13
  refine zaj rm_xc (t:=true) (by show Value.bool (ok==13)=_;rw [hz]) ?_;rw [if_pos rfl];obtain rfl:=hR0.out;rw [za9 _ rfl];refine nk13 ⟨_,_,I⟩ ⟨rfl,rfl,rfl,rfl,rfl⟩ fun y w5 X5 I5=>?_;refine zaq rm_xc ?_;exact zc7 I5 X5 h.out
 have hz13:(ok==13)=false:=by simpa using k13
 refine zaj rm_xc (t:=false) (by show Value.bool (ok==13)=_;rw [hz13]) ?_;rw [if_neg Bool.false_ne_true];clear hz13 k13;refine zan (c:=cB (zaz 12)) rm_xc rfl fun R1 hR1=>?_;rw [show cA (cB (zaz 12))=Code.region _ _ _ from rfl]
 refine zav zct (zab zae (by kernel_rfl)) rfl (zaa Try.func35) rfl fun wp hp=>?_;replace hp:=yay hp;replace I:=yay I
 go_wp2_with fail
 refine fun w4 h4=>?_;replace I:=I.out.left ((LeftW.of_sim hp.out.heap hp.out.outs).sim h4);clear h4 hp wp;obtain rfl:=hR1.out;clear hR1;rw [show cB (cB (zaz 12))=Code.cond _ (cA (zaz 13)) (cB (zaz 13)) from rfl]
 by_cases k14:ok=14
 ·have hz:(ok==14)=true:=by simpa using k14
  refine zaj rm_xc (t:=true) (by show Value.bool (ok==14)=_;rw [hz]) ?_;rw [if_pos rfl];obtain rfl:=hR0.out;rw [za9 _ rfl];refine nk14 ⟨_,_,I⟩ ⟨rfl,rfl,rfl,rfl,rfl⟩ fun y w5 X5 I5=>?_;refine zaq rm_xc ?_;exact zc7 I5 X5 h.out
 have hz14:(ok==14)=false:=by simpa using k14
 refine zaj rm_xc (t:=false) (by show Value.bool (ok==14)=_;rw [hz14]) ?_;rw [if_neg Bool.false_ne_true];clear hz14 k14;refine zan (c:=cB (zaz 13)) rm_xc rfl fun R1 hR1=>?_;rw [show cA (cB (zaz 13))=Code.region _ _ _ from rfl]
 refine zav zct (zab zae (by kernel_rfl)) rfl (zaa Try.func35) rfl fun wp hp=>?_;replace hp:=yay hp;replace I:=yay I
 go_wp2_with fail
 refine fun w4 h4=>?_;replace I:=I.out.left ((LeftW.of_sim hp.out.heap hp.out.outs).sim h4);clear h4 hp wp;obtain rfl:=hR1.out;clear hR1;rw [show cB (cB (zaz 13))=Code.cond _ (cA (zaz 14)) (cB (zaz 14)) from rfl]
 by_cases k15:ok=15
 ·have hz:(ok==15)=true:=by simpa using k15
  refine zaj rm_xc (t:=true) (by show Value.bool (ok==15)=_;rw [hz]) ?_;rw [if_pos rfl];obtain rfl:=hR0.out;rw [za9 _ rfl];refine nk15 ⟨_,_,I⟩ ⟨rfl,rfl,rfl,rfl,rfl⟩ fun y w5 X5 I5=>?_;refine zaq rm_xc ?_;exact zc7 I5 X5 h.out
 have hz15:(ok==15)=false:=by simpa using k15
 refine zaj rm_xc (t:=false) (by show Value.bool (ok==15)=_;rw [hz15]) ?_;rw [if_neg Bool.false_ne_true];clear hz15 k15;rw [show cB (zaz 14)=Code.seq _ _ from rfl]
 refine zah rm_xc fun R1 hR1=>?_;refine zcc 2 (by decide) (by decide) (zaf (by kernel_rfl)) fun wp hp=>?_;simp only [yad,yae];have hg:=(congrArg (·[T+2]?) hp.heap).trans I.res;have c0:=zac hg 0;have c1:=zac hg 1;have c2:=zac hg 2;have z0:=zak hg 0;have z1:=zak hg 1;have z2:=zak hg 2;simp only [yac,yaa,yab] at c0 c1 c2;replace hg:=yay hg;replace hp:=yay hp;replace I:=yay I
 go_wp2_with fail
 refine zat rfl fun w1 h1=>?_;have h1':Sim w1 (zh5 wp (T+2) ⟨false,0,[]⟩ (.slice none 0 0)):=h1;have e1:w1.heap[T+2]?=some (.cells #[.bool false,.int .i64 0,.slice none 0 0] 42 (0,0)):=by rw [h1'.heap];exact zh4 hg.out rfl ⟨false,0,[]⟩ _
 rename_i w9;have L1:LeftW w w1:=by
  have hlo:=I.out.lo;refine ⟨fun a ha=>?_,?_,?_⟩
  ·rw [h1'.heap,zel (show a≠T+2 by omega),hp.out.heap];exact I.out.l.same a ha
  ·have e:=I.out.l.size;have e2:w1.heap.size=wp.heap.size:=by rw [h1'.heap,ze0]
   have e3:=congrArg Array.size hp.out.heap;omega
  ·exact ⟨h1'.outs.1.trans ((zdr _ _ _ _).1.trans (hp.out.outs.1.trans I.out.l.outs.1)),h1'.outs.2.trans ((zdr _ _ _ _).2.trans (hp.out.outs.2.trans I.out.l.outs.2))⟩
 clear hg hp c0 c1 c2 z0 z1 z2 I wp h1 h1';refine zad rm_xc ?_;obtain rfl:=hR1.out;clear hR1;refine zb1 rm_xc ?_;refine zay rm_xc (zaa Try.func35) (za4 _) (v := .agg #[.bool false,.int .i64 0,.slice none 0 0]) (by rw [zbj];exact ⟨rfl,rfl,rfl,_,Try.func35,results_cell_row rfl _ _ (T+2) 42 _ (0,0) _ rfl e1 Try.underlying42 rfl (by kernel_rfl)⟩) ?_;exact h.out _ _ L1
end
noncomputable def c10:Code:=(Try.f10.body).getD .skip
def A10 (x:Nat→Value):Act:=⟨#[x 0,x 1,x 2,x 3,x 4,x 5,x 6,x 7,x 8,x 9,x 10,x 11,x 12,x 13,x 14,x 15,x 16,x 17,x 18,x 19,x 20,x 21,x 22,x 23,x 24,x 25,x 26,x 27,x 28,x 29,x 30,x 31,x 32,x 33,x 34,x 35,x 36,x 37,x 38,x 39,x 40,x 41,x 42,x 43,x 44,x 45,x 46,x 47,x 48,x 49,x 50,x 51,x 52,x 53,x 54,x 55,x 56,x 57,x 58,x 59,x 60,x 61,x 62,x 63,x 64,x 65,x 66,x 67,x 68,x 69,x 70,x 71,x 72,x 73,x 74,x 75,x 76,x 77,x 78,x 79,x 80,x 81,x 82,x 83,x 84,x 85,x 86,x 87,x 88,x 89,x 90,x 91,x 92,x 93,x 94,x 95,x 96,x 97,x 98,x 99,x 100,x 101,x 102,x 103,x 104,x 105,x 106,x 107,x 108,x 109,x 110,x 111,x 112,x 113,x 114,x 115,x 116,x 117,x 118,x 119,x 120,x 121,x 122,x 123,x 124,x 125,x 126,x 127,x 128,x 129,x 130,x 131,x 132,x 133,x 134,x 135,x 136,x 137,x 138,x 139,x 140,x 141,x 142,x 143,x 144,x 145,x 146,x 147,x 148,x 149,x 150,x 151,x 152,x 153,x 154,x 155,x 156,x 157,x 158,x 159,x 160,x 161,x 162,x 163,x 164,x 165,x 166,x 167,x 168,x 169,x 170,x 171,x 172,x 173,x 174,x 175,x 176,x 177,x 178,x 179,x 180,x 181,x 182,x 183,x 184,x 185,x 186,x 187,x 188,x 189,x 190,x 191,x 192,x 193,x 194,x 195],[]⟩
theorem zka (l:Array Value) (hl:l.size=196):(⟨l,[]⟩:Act)=A10 fun j=>l.getD j undef:=by
 have e:∀ x:Nat→Value,(A10 x).tmps=((List.range 196).map x).toArray:=fun x=>rfl;have h1:l=(A10 fun j=>l.getD j undef).tmps:=by
  rw [e];apply Array.ext_getElem?;intro i;by_cases h:i < 196
  ·have h':i < l.size:=by omega
   simp [h,h',List.getElem?_range]
  ·have h':¬ i < l.size:=by omega
   rw [Array.getElem?_eq_none (by omega),Array.getElem?_eq_none (by simp;omega)]
 exact congrArg (Act.mk · []) h1
noncomputable def zpa:Code:=cB (cB (cB (cB (cB c10))))
noncomputable def zjw:Code:=cA (cA (cB (cA zpa)))
noncomputable def inN:Code:=cA (cA (cB zjw))
def Eq3 (s s':zb8):Prop:=s.W 0=s'.W 0∧s.F 0=s'.F 0∧s.B 0=s'.B 0
theorem zvg {s s':zb8} (h:Eq3 s s') (o:OpD):(zcq s o).1=(zcq s' o).1∧Eq3 (zcq s o).2 (zcq s' o).2:=by
 obtain ⟨h1,h2,h3⟩:=h;have hw:∀ v,Eq3 ((zcs 0).put v s) ((zcs 0).put v s'):=fun v=>⟨by show upd s.W 0 v 0=upd s'.W 0 v 0;rw [upd_same,upd_same],h2,h3⟩;have hf:∀ v,Eq3 ((zhk 0).put v s) ((zhk 0).put v s'):=fun v=>⟨h1,by show upd s.F 0 v 0=upd s'.F 0 v 0;rw [upd_same,upd_same],h3⟩;have hb:∀ v,Eq3 ((zd3 0).put (((zd3 0).get s).lay v) s) ((zd3 0).put (((zd3 0).get s').lay v) s'):=fun v=>⟨h1,h2,by show upd s.B 0 _ 0=upd s'.B 0 _ 0;rw [upd_same,upd_same];rfl⟩;have h0:Eq3 s s':=⟨h1,h2,h3⟩;unfold zcq;rw [h1,h2,h3];by_cases k1:o.kind=1
 ·simp only [if_pos k1]
  first|exact ⟨trivial,h0⟩|exact ⟨rfl,h0⟩
 simp only [if_neg k1];by_cases k2:o.kind=2
 ·simp only [if_pos k2]
  first|exact ⟨trivial,hw _⟩|exact ⟨rfl,hw _⟩
 simp only [if_neg k2];by_cases k3:o.kind=3
 ·simp only [if_pos k3]
  first|exact ⟨trivial,hw _⟩|exact ⟨rfl,hw _⟩
 simp only [if_neg k3];by_cases k4:o.kind=4
 ·simp only [if_pos k4]
  first|exact ⟨trivial,hw _⟩|exact ⟨rfl,hw _⟩
 simp only [if_neg k4];by_cases k5:o.kind=5
 ·simp only [if_pos k5];by_cases q:s'.W 0=o.b
  ·simp only [if_pos q];first|exact ⟨trivial,hw _⟩|exact ⟨rfl,hw _⟩
  ·simp only [if_neg q];first|exact ⟨trivial,h0⟩|exact ⟨rfl,h0⟩
 simp only [if_neg k5];by_cases k6:o.kind=6
 ·simp only [if_pos k6];cases hh:grT o.b (s'.W 0) with
  | none=>first|exact ⟨trivial,h0⟩|exact ⟨rfl,h0⟩
  | some y=>first|exact ⟨trivial,hw _⟩|exact ⟨rfl,hw _⟩
 simp only [if_neg k6];by_cases k7:o.kind=7
 ·simp only [if_pos k7];cases hh:leT o.b (s'.W 0) with
  | none=>first|exact ⟨trivial,h0⟩|exact ⟨rfl,h0⟩
  | some y=>first|exact ⟨trivial,hw _⟩|exact ⟨rfl,hw _⟩
 simp only [if_neg k7];by_cases k8:o.kind=8
 ·simp only [if_pos k8];cases hh:buT o.b o.c (s'.W 0) with
  | none=>first|exact ⟨trivial,h0⟩|exact ⟨rfl,h0⟩
  | some y=>first|exact ⟨trivial,hw _⟩|exact ⟨rfl,hw _⟩
 simp only [if_neg k8];by_cases k9:o.kind=9
 ·simp only [if_pos k9]
  first|exact ⟨trivial,h0⟩|exact ⟨rfl,h0⟩
 simp only [if_neg k9];by_cases k10:o.kind=10
 ·simp only [if_pos k10]
  first|exact ⟨trivial,hf _⟩|exact ⟨rfl,hf _⟩
 simp only [if_neg k10];by_cases k11:o.kind=11
 ·simp only [if_pos k11]
  first|exact ⟨trivial,hf _⟩|exact ⟨rfl,hf _⟩
 simp only [if_neg k11];by_cases k12:o.kind=12
 ·simp only [if_pos k12]
  first|exact ⟨trivial,h0⟩|exact ⟨rfl,h0⟩
 simp only [if_neg k12];by_cases k13:o.kind=13
 ·simp only [if_pos k13]
  first|exact ⟨trivial,hb _⟩|exact ⟨rfl,hb _⟩
 simp only [if_neg k13];by_cases k14:o.kind=14
 ·simp only [if_pos k14]
  first|exact ⟨trivial,hb _⟩|exact ⟨rfl,hb _⟩
 simp only [if_neg k14];by_cases k15:o.kind=15
 ·simp only [if_pos k15]
  first|exact ⟨trivial,hb _⟩|exact ⟨rfl,hb _⟩
 simp only [if_neg k15]
 first|exact ⟨trivial,h0⟩|exact ⟨rfl,h0⟩
abbrev NC (P:P8) (w0:World) (sz sw:zb8) (oz ow:Nat→Owner) (w:World):Prop:=ND (zcb (TL P.wa P.fa P.ba)) (ThB P.wa P.fa P.ba) (zcb (TL P.wb P.fb P.bb)) (ThB P.wb P.fb P.bb) w0 sz sw oz ow w
structure KF (P:P8) (X:List (Nat×Obj)) (w0:World) (sz sw:zb8) (oz ow:Nat→Owner) (w:World):Prop where
 ns:NC P w0 sz sw oz ow w
 ex:∀ K o,(K,o)∈X→BlkAt oz ow w K o
section
variable {P:P8} {X X':List (Nat×Obj)} {w0 w w':World} {sz sw s':zb8} {oz ow o':Nat→Owner}
theorem KF.sub (h:KF P X' w0 sz sw oz ow w) (hs:∀ p∈X,p∈X'):KF P X w0 sz sw oz ow w:=⟨h.ns,fun K o hm=>h.ex K o (hs _ hm)⟩
theorem KF.left (h:KF P X w0 sz sw oz ow w) (l:LeftW w w'):KF P X w0 sz sw oz ow w':=⟨h.ns.left famTh famTh l,fun K o hK=>(h.ex K o hK).keep fun b hb h1 h2=>⟨⟨h1,h2⟩,l.same b hb⟩⟩
theorem KF.sim (h:KF P X w0 sz sw oz ow w) (e:w'.heap=w.heap) (ho:w'.os=w.os∧w'.output=w.output):KF P X w0 sz sw oz ow w':=h.left (.of_sim e ho)
theorem KF.stepZ (h:KF P X w0 sz sw oz ow w) (g:ThW P.wa P.fa P.ba s' o' w') (l:Left oz o' w w'):KF P X w0 s' sw o' ow w' :=
 ⟨h.ns.stepZ famTh g l,fun K o hK=>(h.ex K o hK).keep fun b hb h1 h2=>⟨⟨(l.same b hb h1).1,h2⟩,(l.same b hb h1).2⟩⟩
theorem KF.stepW (h:KF P X w0 sz sw oz ow w) (g:ThW P.wb P.fb P.bb s' o' w') (l:Left ow o' w w'):KF P X w0 sz s' oz o' w' :=
 ⟨h.ns.stepW famTh g l,fun K o hK=>(h.ex K o hK).keep fun b hb h1 h2=>⟨⟨h1,(l.same b hb h2).1⟩,(l.same b hb h2).2⟩⟩
theorem KF.set {K:Nat} {o p:Obj} (h:KF P ((K,o)::X) w0 sz sw oz ow w) (hX:∀ K' o',(K',o')∈X→K'≠K) (hl:w0.heap.size≤K) (hs:w'.heap.size=w.heap.size) (ho:w'.os=w.os∧w'.output=w.output) (hk:∀ b,b≠K→w'.heap[b]?=w.heap[b]?) (hp:w'.heap[K]?=some p):KF P ((K,p)::X) w0 sz sw oz ow w':=by
 have hb:=h.ex K o (List.mem_cons_self ..);have h1:=h.ns;have hz:=hb.z;have hw:=hb.wt;refine ⟨⟨h1.z.keep famTh (by omega) fun b _ h0=>hk b fun q=>h0 (q▸hz),h1.wt.keep famTh (by omega) fun b _ h0=>hk b fun q=>h0 (q▸hw),h1.dis,⟨fun b hb=>(hk b (by omega)).trans (h1.l.same b hb),by have:=h1.l.size;omega,ho.1.trans h1.l.outs.1,ho.2.trans h1.l.outs.2⟩,h1.oz0,h1.ow0⟩,fun K' o' hm=>?_⟩;rcases List.mem_cons.1 hm with e|e
 ·simp only [Prod.mk.injEq] at e;obtain ⟨rfl,rfl⟩:=e;exact ⟨hb.z,hb.wt,hp⟩
 ·have h2:=h.ex K' o' (List.mem_cons_of_mem _ e);exact ⟨h2.z,h2.wt,(hk _ (hX K' o' e)).trans h2.at_⟩
end
def tv17 (P:P8) (jj b off len cap:Nat) (o:OpD):Nat→Option Value
 | 0=>some (.agg #[gpv P.wa,gpv P.fa,gpv P.ba])|1=>some (.slice (some ⟨b,off,none⟩) len cap)|2=>some (.int .i64 jj)|3=>some (.pointer (some ⟨b,off+jj * 4,none⟩))|4=>some (opV o)
 | _=>none
structure I17 (P:P8) (X:List (Nat×Obj)) (w0:World) (jj b off len cap:Nat) (s:zb8) (s2:zb8) (o:OpD) (z:Nat→Value) (listed:Array Bool) (x:Nat→Value) (oz ow:Nat→Owner) (w:World):Prop where
 xs:∀ j,j < 13→x j=z j
 tab:Tab (tv17 P jj b off len cap o) 151 listed x
 ks:KF P X w0 (if listed.getD 5 false=true then (zcq s o).2 else s) s2 oz ow w
 c5:listed.getD 5 false=true→∃ a c,x 156=zbu (zcq s o).1 (.slice a 0 c)
 c6:listed.getD 6 false=true→∃ K,x 13 = .pointer (some ⟨K,0,none⟩)∧w0.heap.size≤K∧BlkAt oz ow w K zq9∧∀ K' o',(K',o')∈X→K'≠K
section
variable {P:P8} {X:List (Nat×Obj)} {w0 w w':World} {jj b off len cap:Nat} {s s2:zb8} {o:OpD} {z x:Nat→Value} {listed:Array Bool} {oz ow oz' ow':Nat→Owner}
theorem I17.put (h:I17 P X w0 jj b off len cap s s2 o z listed x oz ow w) {i:Nat} {u:Value} (hi:i < 5) (ht:tv17 P jj b off len cap o i=some u):I17 P X w0 jj b off len cap s s2 o z (listed.setIfInBounds i true) (upd x (151+i) u) oz ow w:=by
 refine ⟨fun j hj=>by rw [upd_ne _ _ (by omega)];exact h.xs j hj,h.tab.put (.inl ht),?_,fun q=>?_,fun q=>?_⟩
 ·rw [za0 (by omega)];exact h.ks
 ·rw [upd_ne _ _ (by omega)];exact h.c5 (by rwa [za0 (by omega)] at q)
 ·rw [upd_ne _ _ (by omega)];exact h.c6 (by rwa [za0 (by omega)] at q)
end
section
variable {P:P8} {X:List (Nat×Obj)} {Z:Machine→Trace→Prop} {cs:List Frame} {w0 w:World} {jj b off len cap ka:Nat} {s s2:zb8} {o:OpD} {z:Nat→Value} {oz ow:Nat→Owner} {R:List Item}
theorem call17 (ho:o.Ok) (hjl:jj < len) (hl9:len≤9223372036854775807) (hops:zid w0 b (off+jj * 4) o)
  (z5:z 0 = .slice (some ⟨b,off,none⟩) len cap) (zk:z 4 = .pointer (some ⟨ka,0,none⟩)) (hka:(ka,thO P.wa P.fa P.ba)∈X) (z11:z 6 = .int .i64 jj) (I:KF P X w0 s s2 oz ow w)
  (hret:∀ x oz ow w' K a c,(∀ j,j < 13→x j=z j)→x 13 = .pointer (some ⟨K,0,none⟩)→KF P ((K,ansE (zcq s o).1 a c)::X) w0 (zcq s o).2 s2 oz ow w'→RM Try.prog Z (G ((base 10).at (A10 x) R) cs) w') :
  RM Try.prog Z (G ((base 10).at (A10 z) (.code (cA (cB (cB (cB (cB (cB (cB inN)))))))::R)) cs) w:=by
 replace hret:=yay hret;obtain ⟨o0,o1,o2,o3⟩:=hops;have hlt':(jj:Int) < (len:Int):=by omega
 have hj0:(0:Int)≤(jj:Int):=by omega
 rw [show cA (cB (cB (cB (cB (cB (cB inN))))))=Code.region _ _ _ from rfl]
 refine zgn rm_xc 7 [[7]] rfl (by kernel_rfl) (za4 _) (fun listed a w=>∃ x oz ow,a=A10 x∧I17 P X w0 jj b off len cap s s2 o z listed x oz ow w) ?i0 ?ie ?ist
 case i0 =>
  refine ⟨z,oz,ow,rfl,fun _ _=>rfl,.zero,?_,fun q=>(by rw [getD_replicate_false] at q;cases q),fun q=>(by rw [getD_replicate_false] at q;cases q)⟩;rw [getD_replicate_false];exact I
 case ie =>
  rintro a w3 ⟨x,oz3,ow3,rfl,hI⟩ r hr;obtain rfl:r=[7]:=by simpa using hr
  obtain ⟨a1,c1,t5⟩:=hI.c5 rfl;obtain ⟨K,t6,hK,hK1,hKX⟩:=hI.c6 rfl;have hks:KF P X w0 (zcq s o).2 s2 oz3 ow3 w3:=hI.ks;have hxs:=hI.xs;clear hI hr o0 o1 o2 o3;generalize (zcq s o).1=rr at *;refine zph (rest:=[]) (by decide) [7] [_] rfl (zaf (by kernel_rfl)) fun wp hp=>?_;have gk:wp.heap[K]?=some zq9:=(congrArg (·[K]?) hp.heap).trans hK1.at_;unfold zq9 at gk;have k0:=zac gk 0;have k1:=zac gk 1;have k2:=zac gk 2;have f0:=zak gk 0;have f1:=zak gk 1;have f2:=zak gk 2;simp only [yac,yaa,yab] at k0 k1 k2;replace gk:=yay gk;replace hp:=yay hp;replace hxs:=yay hxs;clear z5 zk z11 hlt' hj0 hl9;unfold A10;simp only [t5,t6];unfold zbu
  go_wp2_with fail
  refine zat rfl fun w4 h4=>?_;have h4':Sim w4 (zh5 wp K rr (.slice a1 0 c1)):=h4;have e4:w4.heap=(zh5 wp K rr (.slice a1 0 c1)).heap:=h4'.heap;have o4:w4.os=w3.os∧w4.output=w3.output:=⟨h4'.outs.1.trans ((zdr _ _ _ _).1.trans hp.out.outs.1),h4'.outs.2.trans ((zdr _ _ _ _).2.trans hp.out.outs.2)⟩;clear h4 h4';have ek:w4.heap[K]?=some (ansE rr a1 c1):=by rw [e4];exact zh4 gk.out rfl rr _
  have oth:∀ b,b≠K→w4.heap[b]?=w3.heap[b]?:=fun b h1=>by rw [e4,zel h1,hp.out.heap]
  have sz:w4.heap.size=w3.heap.size:=by rw [e4,ze0,hp.out.heap]
  clear e4 hp gk k0 k1 k2 f0 f1 f2;refine zad rm_xc ?_;rw [zka _ rfl];have hk2:KF P ((K,zq9)::X) w0 _ _ oz3 ow3 w3:=⟨hks.ns,fun K' o' hm=>by
   rcases List.mem_cons.1 hm with e|e
   ·simp only [Prod.mk.injEq] at e;obtain ⟨rfl,rfl⟩:=e;exact hK1
   ·exact hks.ex K' o' e⟩
  refine hret.out _ oz3 ow3 w4 K a1 c1 ?xs ?x9 (hk2.set hKX hK sz o4 oth ek)
  case x9=>rfl
  case xs =>
   intro j hj;rcases j with _|_|_|_|_|_|_|_|_|_|_|_|_|j<;>first|(exact hxs.out _ (by decide))|omega
 case ist =>
  rintro listed i hi8 hir a w3 r ⟨x,oz3,ow3,rfl,hI⟩ hnext;obtain ⟨hun,op,hop,hdep⟩:=mem_ready.1 hir;have x5:x 0 = .slice (some ⟨b,off,none⟩) len cap:=(hI.xs 0 (by decide)).trans z5;have xk:x 4 = .pointer (some ⟨ka,0,none⟩):=(hI.xs 4 (by decide)).trans zk;have x11:x 6 = .int .i64 jj:=(hI.xs 6 (by decide)).trans z11;have gka:=(hI.ks.ex ka _ hka).at_;have kk:Hid (∀ wp:World,Sim wp w3→wp.cell? ⟨ka,0,none⟩=some (gpv P.wa)∧wp.cell? ⟨ka,1,none⟩=some (gpv P.fa)∧wp.cell? ⟨ka,2,none⟩=some (gpv P.ba)):=yay fun wp hp=>by
   have g:=(congrArg (·[ka]?) hp.heap).trans gka;exact ⟨zac g 0,zac g 1,zac g 2⟩
  have cc:∀ i v,w0.cell? ⟨b,i,none⟩=some v→∀ wp:World,Sim wp w3→wp.cell? ⟨b,i,none⟩=some v:=fun i v q wp hp=>by
   refine (World.cell?_of_block (w:=w0) ?_).trans q;show wp.heap[b]?=w0.heap[b]?;rw [hp.heap];exact hI.ks.ns.l.same b (World.block_lt_of_cell? w0 _ q)
  have q0:=yay (cc _ _ o0);have q1:=yay (cc _ _ o1);have q2:=yay (cc _ _ o2);have q3:=yay (cc _ _ o3);clear cc o0 o1 o2 o3 gka;have hcase:i=0∨i=1∨i=2∨i=3∨i=4∨i=5∨i=6:=by omega
  rcases hcase with rfl|rfl|rfl|rfl|rfl|rfl|rfl
  ·refine zau rfl rfl (by decide) (zaf (l:=[_]) (by kernel_rfl) _ (yaj.2 rfl)) (v := .agg #[gpv P.wa,gpv P.fa,gpv P.ba]) (fun wp hp=>by
    obtain ⟨k0,k1,k2⟩:=kk.out wp hp;unfold A10
    try unfold gpv opV at *
    go_simp<;>rfl) ?_
   exact hnext (A10 (upd x 151 (.agg #[gpv P.wa,gpv P.fa,gpv P.ba]))) w3 ⟨_,oz3,ow3,rfl,hI.put (i:=0) (by omega) rfl⟩
  ·refine zau rfl rfl (by decide) (zaf (l:=[_]) (by kernel_rfl) _ (yaj.2 rfl)) (v := .slice (some ⟨b,off,none⟩) len cap) (fun wp hp=>by
    unfold A10
    try unfold gpv opV at *
    go_simp<;>rfl) ?_
   exact hnext (A10 (upd x 152 (.slice (some ⟨b,off,none⟩) len cap))) w3 ⟨_,oz3,ow3,rfl,hI.put (i:=1) (by omega) rfl⟩
  ·refine zau rfl rfl (by decide) (zaf (l:=[_]) (by kernel_rfl) _ (yaj.2 rfl)) (v := .int .i64 jj) (fun wp hp=>by
    unfold A10
    try unfold gpv opV at *
    go_simp<;>rfl) ?_
   exact hnext (A10 (upd x 153 (.int .i64 jj))) w3 ⟨_,oz3,ow3,rfl,hI.put (i:=2) (by omega) rfl⟩
  ·have hop':=yaw hop;subst hop';have t1:=hI.tab.at (s:=152) (hdep ⟨1,.data⟩ (by simp) rfl) rfl rfl;have t2:=hI.tab.at (s:=153) (hdep ⟨2,.data⟩ (by simp) rfl) rfl rfl;refine zau rfl rfl (by decide) (zaf (l:=[_]) (by kernel_rfl) _ (yaj.2 rfl)) (v := .pointer (some ⟨b,off+jj * 4,none⟩)) (fun wp hp=>by
    unfold A10
    try unfold gpv opV at *
    go_simp<;>rfl) ?_
   exact hnext (A10 (upd x 154 (.pointer (some ⟨b,off+jj * 4,none⟩)))) w3 ⟨_,oz3,ow3,rfl,hI.put (i:=3) (by omega) rfl⟩
  ·have hop':=yaw hop;subst hop';have t3:=hI.tab.at (s:=154) (hdep ⟨3,.data⟩ (by simp) rfl) rfl rfl;refine zau rfl rfl (by decide) (zaf (l:=[_]) (by kernel_rfl) _ (yaj.2 rfl)) (v:=opV o) (fun wp hp=>by
    have k0:=q0.out wp hp;have k1:=q1.out wp hp;have k2:=q2.out wp hp;have k3:=q3.out wp hp;unfold A10
    try unfold gpv opV at *
    go_simp<;>rfl) ?_
   exact hnext (A10 (upd x 155 (opV o))) w3 ⟨_,oz3,ow3,rfl,hI.put (i:=4) (by omega) rfl⟩
  ·have hop':=yaw hop;subst hop';have t0:=hI.tab.at (s:=151) (hdep ⟨0,.data⟩ (by simp) rfl) rfl rfl;have t1:=hI.tab.at (s:=155) (hdep ⟨4,.data⟩ (by simp) rfl) rfl rfl;have hno:listed.getD 5 false=false:=getD_both hun;obtain ⟨hsz,_⟩:=zgw hun;have hself:(listed.setIfInBounds 5 true).getD 5 false=true:=by simp [Array.getD,hsz]
   have hks:=hI.ks;simp only [hno,Bool.false_eq_true,if_false] at hks;refine zal rm_xc rfl rfl (by decide) rfl Try.func35 (by kernel_rfl) (by kernel_rfl) ?_;unfold A10;simp only [t0,t1];walk_nrm;refine zo9 hks.ns.z ho fun oz4 w4 v G4 L4 hrow hnew=>?_;rw [Frame.finish_at];walk_nrm;rw [← t0,← t1];have hns:=hks.stepZ G4 L4;have hk:∀ b,b < w3.heap.size→oz3 b = .out→ow3 b = .out→(oz4 b = .out∧ow3 b = .out)∧w4.heap[b]?=w3.heap[b]?:=fun b hb h1 h2=>⟨⟨(L4.same b hb h1).1,h2⟩,(L4.same b hb h1).2⟩;obtain ⟨va,vc,rfl⟩:=zcw hrow.row;refine hnext (A10 (upd x 156 (zbu (zcq s o).1 (.slice va 0 vc)))) w4 ⟨_,oz4,ow3,rfl,fun j hj=>by rw [upd_ne _ _ (by omega)];exact hI.xs j hj,hI.tab.put (i:=5) (.inr rfl),?_,fun _=>⟨va,vc,upd_same _ _ _⟩,fun q=>?_⟩
   ·simp only [hself,if_true];exact hns
   ·rw [upd_ne _ _ (by decide)];exact (hI.c6 (by rwa [za0 (by decide)] at q)).imp fun K ⟨e,e1,e2,e3⟩=>⟨e,e1,e2.keep hk,e3⟩
  ·clear x5 xk x11 q0 q1 q2 q3;have hlo:=hI.ks.ns.l.size;refine zph (rest:=r) (by decide) [6] [_] rfl (zaf (by kernel_rfl)) fun wp hp=>?_;have hsz:wp.heap.size=w3.heap.size:=by rw [hp.heap]
   replace hp:=yay hp;replace hsz:=yay hsz;unfold A10
   go_wp2_with fail
   refine zat rfl fun w4 h4=>?_;have L4:LeftW w3 w4:=((LeftW.of_sim hp.out.heap hp.out.outs).alloc _).sim h4;have hnew:w4.heap[w3.heap.size]?=some zq9:=by rw [h4.heap,← hsz.out];exact heap_alloc_new _ _
   rw [hsz.out];have hns:=hI.ks.left L4;have hb:BlkAt oz3 ow3 w4 w3.heap.size zq9:=⟨hI.ks.ns.z.new _ (yax _),hI.ks.ns.wt.new _ (yax _),hnew⟩;clear h4 hp hsz wp;refine hnext (A10 (upd x 13 (.pointer (some ⟨w3.heap.size,0,none⟩)))) w4 ⟨_,oz3,ow3,rfl,fun j hj=>by rw [upd_ne _ _ (by omega)];exact hI.xs j hj,fun j u hj hl=>?_,?_,fun q=>by rw [upd_ne _ _ (by decide)];exact hI.c5 (by rwa [za0 (by decide)] at q),fun _=>⟨w3.heap.size,upd_same _ _ _,hlo,hb,fun K' o' hm q=>?_⟩⟩
   ·have hji:j≠6:=fun z=>by rw [z] at hj;cases hj
    rw [za0 hji] at hl;rw [upd_ne _ _ (by omega)];exact hI.tab j u hj hl
   ·rw [za0 (by decide)];exact hns
   ·have:=(yah.1 (hI.ks.ex K' o' hm).at_).1;omega
end
def tv18 (P:P8) (jj b off len cap:Nat) (o:OpD):Nat→Option Value
 | 0=>some (.agg #[gpv P.wb,gpv P.fb,gpv P.bb])|1=>some (.slice (some ⟨b,off,none⟩) len cap)|2=>some (.int .i64 jj)|3=>some (.pointer (some ⟨b,off+jj * 4,none⟩))|4=>some (opV o)
 | _=>none
structure I18 (P:P8) (X:List (Nat×Obj)) (w0:World) (jj b off len cap:Nat) (s:zb8) (s2:zb8) (o:OpD) (z:Nat→Value) (listed:Array Bool) (x:Nat→Value) (oz ow:Nat→Owner) (w:World):Prop where
 xs:∀ j,j < 14→x j=z j
 tab:Tab (tv18 P jj b off len cap o) 157 listed x
 ks:KF P X w0 s2 (if listed.getD 5 false=true then (zcq s o).2 else s) oz ow w
 c5:listed.getD 5 false=true→∃ a c,x 162=zbu (zcq s o).1 (.slice a 0 c)
 c6:listed.getD 6 false=true→∃ K,x 14 = .pointer (some ⟨K,0,none⟩)∧w0.heap.size≤K∧BlkAt oz ow w K zq9∧∀ K' o',(K',o')∈X→K'≠K
section
variable {P:P8} {X:List (Nat×Obj)} {w0 w w':World} {jj b off len cap:Nat} {s s2:zb8} {o:OpD} {z x:Nat→Value} {listed:Array Bool} {oz ow oz' ow':Nat→Owner}
theorem I18.put (h:I18 P X w0 jj b off len cap s s2 o z listed x oz ow w) {i:Nat} {u:Value} (hi:i < 5) (ht:tv18 P jj b off len cap o i=some u):I18 P X w0 jj b off len cap s s2 o z (listed.setIfInBounds i true) (upd x (157+i) u) oz ow w:=by
 refine ⟨fun j hj=>by rw [upd_ne _ _ (by omega)];exact h.xs j hj,h.tab.put (.inl ht),?_,fun q=>?_,fun q=>?_⟩
 ·rw [za0 (by omega)];exact h.ks
 ·rw [upd_ne _ _ (by omega)];exact h.c5 (by rwa [za0 (by omega)] at q)
 ·rw [upd_ne _ _ (by omega)];exact h.c6 (by rwa [za0 (by omega)] at q)
end
section
variable {P:P8} {X:List (Nat×Obj)} {Z:Machine→Trace→Prop} {cs:List Frame} {w0 w:World} {jj b off len cap ka:Nat} {s s2:zb8} {o:OpD} {z:Nat→Value} {oz ow:Nat→Owner} {R:List Item}
theorem call18 (ho:o.Ok) (hjl:jj < len) (hl9:len≤9223372036854775807) (hops:zid w0 b (off+jj * 4) o)
  (z5:z 0 = .slice (some ⟨b,off,none⟩) len cap) (zk:z 5 = .pointer (some ⟨ka,0,none⟩)) (hka:(ka,thO P.wb P.fb P.bb)∈X) (z11:z 6 = .int .i64 jj) (I:KF P X w0 s2 s oz ow w)
  (hret:∀ x oz ow w' K a c,(∀ j,j < 14→x j=z j)→x 14 = .pointer (some ⟨K,0,none⟩)→KF P ((K,ansE (zcq s o).1 a c)::X) w0 s2 (zcq s o).2 oz ow w'→RM Try.prog Z (G ((base 10).at (A10 x) R) cs) w') :
  RM Try.prog Z (G ((base 10).at (A10 z) (.code (cA (cB (cB (cB (cB (cB (cB (cB inN))))))))::R)) cs) w:=by
 replace hret:=yay hret;obtain ⟨o0,o1,o2,o3⟩:=hops;have hlt':(jj:Int) < (len:Int):=by omega
 have hj0:(0:Int)≤(jj:Int):=by omega
 rw [show cA (cB (cB (cB (cB (cB (cB (cB inN)))))))=Code.region _ _ _ from rfl]
 refine zgn rm_xc 7 [[7]] rfl (by kernel_rfl) (za4 _) (fun listed a w=>∃ x oz ow,a=A10 x∧I18 P X w0 jj b off len cap s s2 o z listed x oz ow w) ?i0 ?ie ?ist
 case i0 =>
  refine ⟨z,oz,ow,rfl,fun _ _=>rfl,.zero,?_,fun q=>(by rw [getD_replicate_false] at q;cases q),fun q=>(by rw [getD_replicate_false] at q;cases q)⟩;rw [getD_replicate_false];exact I
 case ie =>
  rintro a w3 ⟨x,oz3,ow3,rfl,hI⟩ r hr;obtain rfl:r=[7]:=by simpa using hr
  obtain ⟨a1,c1,t5⟩:=hI.c5 rfl;obtain ⟨K,t6,hK,hK1,hKX⟩:=hI.c6 rfl;have hks:KF P X w0 s2 (zcq s o).2 oz3 ow3 w3:=hI.ks;have hxs:=hI.xs;clear hI hr o0 o1 o2 o3;generalize (zcq s o).1=rr at *;refine zph (rest:=[]) (by decide) [7] [_] rfl (zaf (by kernel_rfl)) fun wp hp=>?_;have gk:wp.heap[K]?=some zq9:=(congrArg (·[K]?) hp.heap).trans hK1.at_;unfold zq9 at gk;have k0:=zac gk 0;have k1:=zac gk 1;have k2:=zac gk 2;have f0:=zak gk 0;have f1:=zak gk 1;have f2:=zak gk 2;simp only [yac,yaa,yab] at k0 k1 k2;replace gk:=yay gk;replace hp:=yay hp;replace hxs:=yay hxs;clear z5 zk z11 hlt' hj0 hl9;unfold A10;simp only [t5,t6];unfold zbu
  go_wp2_with fail
  refine zat rfl fun w4 h4=>?_;have h4':Sim w4 (zh5 wp K rr (.slice a1 0 c1)):=h4;have e4:w4.heap=(zh5 wp K rr (.slice a1 0 c1)).heap:=h4'.heap;have o4:w4.os=w3.os∧w4.output=w3.output:=⟨h4'.outs.1.trans ((zdr _ _ _ _).1.trans hp.out.outs.1),h4'.outs.2.trans ((zdr _ _ _ _).2.trans hp.out.outs.2)⟩;clear h4 h4';have ek:w4.heap[K]?=some (ansE rr a1 c1):=by rw [e4];exact zh4 gk.out rfl rr _
  have oth:∀ b,b≠K→w4.heap[b]?=w3.heap[b]?:=fun b h1=>by rw [e4,zel h1,hp.out.heap]
  have sz:w4.heap.size=w3.heap.size:=by rw [e4,ze0,hp.out.heap]
  clear e4 hp gk k0 k1 k2 f0 f1 f2;refine zad rm_xc ?_;rw [zka _ rfl];have hk2:KF P ((K,zq9)::X) w0 _ _ oz3 ow3 w3:=⟨hks.ns,fun K' o' hm=>by
   rcases List.mem_cons.1 hm with e|e
   ·simp only [Prod.mk.injEq] at e;obtain ⟨rfl,rfl⟩:=e;exact hK1
   ·exact hks.ex K' o' e⟩
  refine hret.out _ oz3 ow3 w4 K a1 c1 ?xs ?x9 (hk2.set hKX hK sz o4 oth ek)
  case x9=>rfl
  case xs =>
   intro j hj;rcases j with _|_|_|_|_|_|_|_|_|_|_|_|_|_|j<;>first|(exact hxs.out _ (by decide))|omega
 case ist =>
  rintro listed i hi8 hir a w3 r ⟨x,oz3,ow3,rfl,hI⟩ hnext;obtain ⟨hun,op,hop,hdep⟩:=mem_ready.1 hir;have x5:x 0 = .slice (some ⟨b,off,none⟩) len cap:=(hI.xs 0 (by decide)).trans z5;have xk:x 5 = .pointer (some ⟨ka,0,none⟩):=(hI.xs 5 (by decide)).trans zk;have x11:x 6 = .int .i64 jj:=(hI.xs 6 (by decide)).trans z11;have gka:=(hI.ks.ex ka _ hka).at_;have kk:Hid (∀ wp:World,Sim wp w3→wp.cell? ⟨ka,0,none⟩=some (gpv P.wb)∧wp.cell? ⟨ka,1,none⟩=some (gpv P.fb)∧wp.cell? ⟨ka,2,none⟩=some (gpv P.bb)):=yay fun wp hp=>by
   have g:=(congrArg (·[ka]?) hp.heap).trans gka;exact ⟨zac g 0,zac g 1,zac g 2⟩
  have cc:∀ i v,w0.cell? ⟨b,i,none⟩=some v→∀ wp:World,Sim wp w3→wp.cell? ⟨b,i,none⟩=some v:=fun i v q wp hp=>by
   refine (World.cell?_of_block (w:=w0) ?_).trans q;show wp.heap[b]?=w0.heap[b]?;rw [hp.heap];exact hI.ks.ns.l.same b (World.block_lt_of_cell? w0 _ q)
  have q0:=yay (cc _ _ o0);have q1:=yay (cc _ _ o1);have q2:=yay (cc _ _ o2);have q3:=yay (cc _ _ o3);clear cc o0 o1 o2 o3 gka;have hcase:i=0∨i=1∨i=2∨i=3∨i=4∨i=5∨i=6:=by omega
  rcases hcase with rfl|rfl|rfl|rfl|rfl|rfl|rfl
  ·refine zau rfl rfl (by decide) (zaf (l:=[_]) (by kernel_rfl) _ (yaj.2 rfl)) (v := .agg #[gpv P.wb,gpv P.fb,gpv P.bb]) (fun wp hp=>by
    obtain ⟨k0,k1,k2⟩:=kk.out wp hp;unfold A10
    try unfold gpv opV at *
    go_simp<;>rfl) ?_
   exact hnext (A10 (upd x 157 (.agg #[gpv P.wb,gpv P.fb,gpv P.bb]))) w3 ⟨_,oz3,ow3,rfl,hI.put (i:=0) (by omega) rfl⟩
  ·refine zau rfl rfl (by decide) (zaf (l:=[_]) (by kernel_rfl) _ (yaj.2 rfl)) (v := .slice (some ⟨b,off,none⟩) len cap) (fun wp hp=>by
    unfold A10
    try unfold gpv opV at *
    go_simp<;>rfl) ?_
   exact hnext (A10 (upd x 158 (.slice (some ⟨b,off,none⟩) len cap))) w3 ⟨_,oz3,ow3,rfl,hI.put (i:=1) (by omega) rfl⟩
  ·refine zau rfl rfl (by decide) (zaf (l:=[_]) (by kernel_rfl) _ (yaj.2 rfl)) (v := .int .i64 jj) (fun wp hp=>by
    unfold A10
    try unfold gpv opV at *
    go_simp<;>rfl) ?_
   exact hnext (A10 (upd x 159 (.int .i64 jj))) w3 ⟨_,oz3,ow3,rfl,hI.put (i:=2) (by omega) rfl⟩
  ·have hop':=yaw hop;subst hop';have t1:=hI.tab.at (s:=158) (hdep ⟨1,.data⟩ (by simp) rfl) rfl rfl;have t2:=hI.tab.at (s:=159) (hdep ⟨2,.data⟩ (by simp) rfl) rfl rfl;refine zau rfl rfl (by decide) (zaf (l:=[_]) (by kernel_rfl) _ (yaj.2 rfl)) (v := .pointer (some ⟨b,off+jj * 4,none⟩)) (fun wp hp=>by
    unfold A10
    try unfold gpv opV at *
    go_simp<;>rfl) ?_
   exact hnext (A10 (upd x 160 (.pointer (some ⟨b,off+jj * 4,none⟩)))) w3 ⟨_,oz3,ow3,rfl,hI.put (i:=3) (by omega) rfl⟩
  ·have hop':=yaw hop;subst hop';have t3:=hI.tab.at (s:=160) (hdep ⟨3,.data⟩ (by simp) rfl) rfl rfl;refine zau rfl rfl (by decide) (zaf (l:=[_]) (by kernel_rfl) _ (yaj.2 rfl)) (v:=opV o) (fun wp hp=>by
    have k0:=q0.out wp hp;have k1:=q1.out wp hp;have k2:=q2.out wp hp;have k3:=q3.out wp hp;unfold A10
    try unfold gpv opV at *
    go_simp<;>rfl) ?_
   exact hnext (A10 (upd x 161 (opV o))) w3 ⟨_,oz3,ow3,rfl,hI.put (i:=4) (by omega) rfl⟩
  ·have hop':=yaw hop;subst hop';have t0:=hI.tab.at (s:=157) (hdep ⟨0,.data⟩ (by simp) rfl) rfl rfl;have t1:=hI.tab.at (s:=161) (hdep ⟨4,.data⟩ (by simp) rfl) rfl rfl;have hno:listed.getD 5 false=false:=getD_both hun;obtain ⟨hsz,_⟩:=zgw hun;have hself:(listed.setIfInBounds 5 true).getD 5 false=true:=by simp [Array.getD,hsz]
   have hks:=hI.ks;simp only [hno,Bool.false_eq_true,if_false] at hks;refine zal rm_xc rfl rfl (by decide) rfl Try.func35 (by kernel_rfl) (by kernel_rfl) ?_;unfold A10;simp only [t0,t1];walk_nrm;refine zo9 hks.ns.wt ho fun ow4 w4 v G4 L4 hrow hnew=>?_;rw [Frame.finish_at];walk_nrm;rw [← t0,← t1];have hns:=hks.stepW G4 L4;have hk:∀ b,b < w3.heap.size→oz3 b = .out→ow3 b = .out→(oz3 b = .out∧ow4 b = .out)∧w4.heap[b]?=w3.heap[b]?:=fun b hb h1 h2=>⟨⟨h1,(L4.same b hb h2).1⟩,(L4.same b hb h2).2⟩;obtain ⟨va,vc,rfl⟩:=zcw hrow.row;refine hnext (A10 (upd x 162 (zbu (zcq s o).1 (.slice va 0 vc)))) w4 ⟨_,oz3,ow4,rfl,fun j hj=>by rw [upd_ne _ _ (by omega)];exact hI.xs j hj,hI.tab.put (i:=5) (.inr rfl),?_,fun _=>⟨va,vc,upd_same _ _ _⟩,fun q=>?_⟩
   ·simp only [hself,if_true];exact hns
   ·rw [upd_ne _ _ (by decide)];exact (hI.c6 (by rwa [za0 (by decide)] at q)).imp fun K ⟨e,e1,e2,e3⟩=>⟨e,e1,e2.keep hk,e3⟩
  ·clear x5 xk x11 q0 q1 q2 q3;have hlo:=hI.ks.ns.l.size;refine zph (rest:=r) (by decide) [6] [_] rfl (zaf (by kernel_rfl)) fun wp hp=>?_;have hsz:wp.heap.size=w3.heap.size:=by rw [hp.heap]
   replace hp:=yay hp;replace hsz:=yay hsz;unfold A10
   go_wp2_with fail
   refine zat rfl fun w4 h4=>?_;have L4:LeftW w3 w4:=((LeftW.of_sim hp.out.heap hp.out.outs).alloc _).sim h4;have hnew:w4.heap[w3.heap.size]?=some zq9:=by rw [h4.heap,← hsz.out];exact heap_alloc_new _ _
   rw [hsz.out];have hns:=hI.ks.left L4;have hb:BlkAt oz3 ow3 w4 w3.heap.size zq9:=⟨hI.ks.ns.z.new _ (yax _),hI.ks.ns.wt.new _ (yax _),hnew⟩;clear h4 hp hsz wp;refine hnext (A10 (upd x 14 (.pointer (some ⟨w3.heap.size,0,none⟩)))) w4 ⟨_,oz3,ow3,rfl,fun j hj=>by rw [upd_ne _ _ (by omega)];exact hI.xs j hj,fun j u hj hl=>?_,?_,fun q=>by rw [upd_ne _ _ (by decide)];exact hI.c5 (by rwa [za0 (by decide)] at q),fun _=>⟨w3.heap.size,upd_same _ _ _,hlo,hb,fun K' o' hm q=>?_⟩⟩
   ·have hji:j≠6:=fun z=>by rw [z] at hj;cases hj
    rw [za0 hji] at hl;rw [upd_ne _ _ (by omega)];exact hI.tab j u hj hl
   ·rw [za0 (by decide)];exact hns
   ·have:=(yah.1 (hI.ks.ex K' o' hm).at_).1;omega
end
section
variable {Z:Machine→Trace→Prop} {c:Frame} {cs:List Frame} {w:World}
theorem zdh {f:FuncId} {args:Array Value} {v:Value} (hf:f∈[32,33,34,36,37,38,83,87,95,97,100,101,104,105,106,153]) (hc:∀ W:World,W.heap=w.heap→Calls Try.prog f args W fun e w'=>e = .returned v∧W=w') (h:∀ w',LeftW w w'→RM Try.prog Z (G (c.finish v) cs) w'):RM Try.prog Z (G (Frame.enter Try.prog f args .normal) (c::cs)) w :=
 zga prgP (f:=f) hf (R:=fun v' w'=>v'=v∧LeftW w w') (fun _ w' τ d hx=>⟨hx.1,zdt τ d hx.2⟩) (fun τ d=>(hc (re τ d w) rfl).mono fun e w' ⟨e1,e2⟩=>⟨_,e1,rfl,by rw [← e2];exact zdt τ d .refl⟩) fun v' w' hv=>by
  obtain ⟨rfl,hl⟩:=hv;exact h w' hl
end
section
variable {base hi:Nat} {W w w':World} {tv:Nat→Option Value} {z x:Nat→Value} {listed:Array Bool}
end
section
variable {Z:Machine→Trace→Prop} {cs:List Frame} {W:World} {sb N bs os cst ol co:Nat} {po:Option Addr} {z:Nat→Value} {R:List Item}
end
theorem KeptI.left {W w:World} {p:Option Addr} {v:Int} (h:KeptI W p v) (l:∀ b,b < W.heap.size→w.heap[b]?=W.heap[b]?):KeptI w p v:=by
 rcases h with h|⟨kb,e,h⟩
 ·exact .inl h
 ·exact .inr ⟨kb,e,(l kb (yah.1 h).1).trans h⟩
section
variable {Z:Machine→Trace→Prop} {cs:List Frame} {W:World} {N bs os cst ka kb wa fa ba wb fb bb:Nat} {vW vB:Int} {vF:Bool} {pA pB:Option Addr} {z:Nat→Value} {R:List Item}
end
end Go.Proofs.Ytofacoojpgkbiaa
