/-
  A part of a proof. No condition of its own.
-/
import Derived.Test.YtofacoojpgkbiaaCKepP26
import Derived.Laws.StructEq
set_option linter.unusedVariables false
set_option maxHeartbeats 8000000
set_option linter.unusedSimpArgs false
namespace Go.Proofs.Ytofacoojpgkbiaa
open Go.Conc Go.RowKit
open Go.ConcN (upd upd_ne upd_same)
set_option maxRecDepth 100000
def ShpW (w w':World):Prop:=∀ (b:Nat) (c:Array Value) (t:TypeId),w.heap[b]?=some (.cells c t (0,0))→∃ c':Array Value,w'.heap[b]?=some (.cells c' t (0,0))∧c'.size=c.size
theorem ShpW.refl {w:World}:ShpW w w:=fun b c t h=>⟨c,h,rfl⟩
theorem ShpW.trans {w1 w2 w3:World} (h1:ShpW w1 w2) (h2:ShpW w2 w3):ShpW w1 w3:=fun b c t h=>by
 obtain ⟨c1,q1,q2⟩:=h1 b c t h;obtain ⟨c2,q3,q4⟩:=h2 b c1 t q1;exact ⟨c2,q3,q4.trans q2⟩
theorem ShpW.same {w w':World} (h:∀ b,b < w.heap.size→w'.heap[b]?=w.heap[b]?):ShpW w w':=fun b c t hb=>⟨c,(h b (yah.1 hb).1).trans hb,rfl⟩
theorem ShpW.set (w:World) (g off:Nat) (v:Value):ShpW w (w.setCell ⟨g,off,none⟩ v):=fun b c t hb=>by
 by_cases e:b=g
 ·subst e;exact ⟨_,zam hb off v,by simp⟩
 ·exact ⟨c,(Below.heap_setCell _ _ _ _ e).trans hb,rfl⟩
def Mok (lo p0 p1 b:Nat) (t:TypeId):Prop:=(lo≤b∧b < p0∧t=45)∨(p0≤b∧b < p1∧(t=2∨t=3∨t=42))
structure Mid (lo p0 p1:Nat) (W w:World):Prop where
 size:W.heap.size≤w.heap.size
 outs:w.os=W.os∧w.output=W.output
 keep:∀ (b:Nat) (o:Obj),W.heap[b]?=some o→(∀ c t,o = .cells c t (0,0)→¬ Mok lo p0 p1 b t)→w.heap[b]?=some o
 shp:ShpW W w
section
variable {lo p0 p1:Nat} {W w w':World}
theorem Mid.refl:Mid lo p0 p1 W W:=⟨yax _,⟨rfl,rfl⟩,fun b o h _=>h,.refl⟩
theorem Mid.left (h:Mid lo p0 p1 W w) (l:LeftW w w'):Mid lo p0 p1 W w' :=
 ⟨Nat.le_trans h.size l.size,⟨l.outs.1.trans h.outs.1,l.outs.2.trans h.outs.2⟩,fun b o hb hn=>(l.same b (yah.1 (h.keep b o hb hn)).1).trans (h.keep b o hb hn),h.shp.trans (.same l.same)⟩
theorem Mid.set (h:Mid lo p0 p1 W w) {g:Nat} {cur:Array Value} {t:TypeId} (hg:w.heap[g]?=some (.cells cur t (0,0))) (hm:W.heap.size≤g∨Mok lo p0 p1 g t) (off:Nat) (v:Value):Mid lo p0 p1 W (w.setCell ⟨g,off,none⟩ v):=by
 refine ⟨by have:=h.size;simp [World.setCell];exact this,h.outs,fun b o hb hn=>?_,h.shp.trans (.set w g off v)⟩;have e0:=h.keep b o hb hn;by_cases e:b=g
 ·subst e;rw [hg] at e0;have hlt:=(yah.1 hb).1;rcases hm with z|z
  ·omega
  ·exact absurd z (hn cur t (yaw e0).symm)
 ·exact (Below.heap_setCell _ _ _ _ e).trans e0
theorem Mid.app (h:Mid lo p0 p1 W w) {base base' e sz sz' n n':Nat} {v v':Value} {xs ys:List Value} (hr:w.ownsRow base e sz v n xs) (hr':w'.ownsRow base' e sz v' n' ys) (hg:w.grownBy w' v.ownBlock) (hd:(∃ p n1 n2 c,v = .slice p n1 c∧v' = .slice p n2 c)∨∀ b,b < w.heap.size→w'.heap[b]?=w.heap[b]?) (hm:∀ g,v.ownBlock=some g→W.heap.size≤g∨Mok lo p0 p1 g e):Mid lo p0 p1 W w':=by
 rcases hd with ⟨p,n1,n2,cc,rfl,rfl⟩|hd
 ·have inp:∀ g,Value.ownBlock (.slice p n1 cc)=some g→∃ cur cur',w.heap[g]?=some (.cells cur e (0,0))∧w'.heap[g]?=some (.cells cur' e (0,0))∧cur'.size=cur.size:=fun g hgb=>by
   rcases hr.2 with ⟨e1,_⟩|⟨g1,cap,cur,e1,_,q1,_,_,q2,_⟩
   ·rw [e1] at hgb;cases hgb
   rcases hr'.2 with ⟨e2,_⟩|⟨g2,cap2,cur2,e2,_,q3,_,_,q4,_⟩
   ·simp only [Value.slice.injEq] at e1 e2;obtain ⟨rfl,_⟩:=e1;obtain ⟨e2,_⟩:=e2;cases e2
   simp only [Value.slice.injEq] at e1 e2;obtain ⟨rfl,_,rfl⟩:=e1;obtain ⟨e3,_,rfl⟩:=e2;simp only [Option.some.injEq,Addr.mk.injEq] at e3;obtain ⟨rfl,_⟩:=e3;simp only [Value.ownBlock,Option.some.injEq] at hgb;subst hgb;exact ⟨cur,cur2,q1,q3,by omega⟩
  refine ⟨Nat.le_trans h.size hg.size,⟨hg.os.trans h.outs.1,hg.output.trans h.outs.2⟩,fun b o hb hn=>?_,h.shp.trans fun b c t hb=>?_⟩
  ·have e0:=h.keep b o hb hn;refine (hg.block b (yah.1 e0).1 fun q=>?_).trans e0;obtain ⟨cur,_,q1,_⟩:=inp b q.symm;rw [q1] at e0;have hlt:=(yah.1 hb).1;rcases hm b q.symm with z|z
   ·omega
   ·exact absurd z (hn cur e (yaw e0).symm)
  ·by_cases q:Value.ownBlock (.slice p n1 cc)=some b
   ·obtain ⟨cur,cur',q1,q2,q3⟩:=inp b q;rw [hb] at q1;simp only [Option.some.injEq,Obj.cells.injEq,and_true] at q1;obtain ⟨rfl,rfl⟩:=q1;exact ⟨cur',q2,q3⟩
   ·exact ⟨c,(hg.block b (yah.1 hb).1 fun z=>q z.symm).trans hb,rfl⟩
 ·exact h.left ⟨hd,hg.size,hg.os,hg.output⟩
theorem Mid.low (h:Mid lo p0 p1 W w) (hlo:lo≤p0) (hW:lo≤W.heap.size) {b:Nat} (hb:b < lo):w.heap[b]?=W.heap[b]?:=by
 obtain ⟨o,ho⟩:∃ o,W.heap[b]?=some o:=⟨_,Array.getElem?_eq_getElem (by omega)⟩;rw [ho];exact h.keep b o ho fun c t _ hm=>by rcases hm with ⟨z,_⟩|⟨z,_⟩<;>omega
theorem Mid.high (h:Mid lo p0 p1 W w) (hp:p0≤p1) {b:Nat} (hb:p1≤b) (hlt:b < W.heap.size):w.heap[b]?=W.heap[b]?:=by
 obtain ⟨o,ho⟩:∃ o,W.heap[b]?=some o:=⟨_,Array.getElem?_eq_getElem hlt⟩;rw [ho];exact h.keep b o ho fun c t _ hm=>by rcases hm with ⟨_,z,_⟩|⟨_,z,_⟩<;>omega
theorem Mid.kind (h:Mid lo p0 p1 W w) {b:Nat} {c:Array Value} {t:TypeId} (hb:W.heap[b]?=some (.cells c t (0,0))) (ht:t≠45∧t≠2∧t≠3∧t≠42∨t≠45∧b < p0):w.heap[b]?=some (.cells c t (0,0)) :=
 h.keep b _ hb fun c' t' e hm=>by
  simp only [Obj.cells.injEq,and_true] at e;obtain ⟨_,rfl⟩:=e;rcases hm with ⟨_,_,z⟩|⟨z,_,z'⟩<;>rcases ht with ⟨h1,h2,h3,h4⟩|⟨h1,h2⟩
  ·exact h1 z
  ·exact h1 z
  ·rcases z' with z'|z'|z'<;>contradiction
  ·omega
end
theorem RowB.shp {lo hi:Nat} {w w':World} {e:TypeId} {sz:Nat} {v:Value} {n:Nat} {xs:List Value} (h:RowB lo hi w e sz v n xs) (hs:ShpW w w'):∃ ys,RowB lo hi w' e sz v n ys:=by
 obtain ⟨⟨h0,h1⟩,h2⟩:=h;rcases h1 with ⟨rfl,rfl⟩|⟨g,cap,cur,rfl,q1,q2,q3,q4,q5,q6⟩
 ·exact ⟨[],⟨World.ownsRow_nil _ _ _ _,h2⟩⟩
 ·obtain ⟨c',e1,e2⟩:=hs g cur e q2;refine ⟨c'.toList.take (n * sz),⟨⟨?_,.inr ⟨g,cap,c',rfl,q1,e1,q3,q4,by omega,rfl⟩⟩,h2⟩⟩;have:n * sz≤cap * sz:=Nat.mul_le_mul_right _ q3;simp only [List.length_take,Array.length_toList];omega
theorem held45:Try.prog.stoodInHeld 45=false:=by kernel_rfl
theorem part2 (cs:Array Value) (off:Nat) (v:Value) (w:World) (h:cs[off]?=some v):(part 2 cs off).run Try.prog w = .ok v w:=by
 simp [part,isAgg,run_underlying Try.underlying2,h,Result.andThen]
theorem part3 (cs:Array Value) (off:Nat) (v:Value) (w:World) (h:cs[off]?=some v):(part 3 cs off).run Try.prog w = .ok v w:=by
 simp [part,isAgg,run_underlying Try.underlying3,h,Result.andThen]
theorem eq2 (d:Nat) (x y:Int) (w:World):(Op.equalIn (d+1) 2 (.int .i64 x) (.int .i64 y)).run Try.prog w = .ok (decide (x=y)) w:=by
 simp only [Op.equalIn,Sem.run_bind,run_underlying Try.underlying2,Result.andThen_ok];by_cases h:x=y<;>simp [h]
theorem eq3 (d:Nat) (x y:Int) (w:World):(Op.equalIn (d+1) 3 (.int .i64 x) (.int .i64 y)).run Try.prog w = .ok (decide (x=y)) w:=by
 simp only [Op.equalIn,Sem.run_bind,run_underlying Try.underlying3,Result.andThen_ok];by_cases h:x=y<;>simp [h]
theorem eqf2 (d:Nat) (xs ys:Array Value) (f:Field) (fs:List Field) (x y:Int) (w:World) (hn:f.name ≠ "_") (ht:f.type=2) (hx:xs[f.offset]?=some (.int .i64 x)) (hy:ys[f.offset]?=some (.int .i64 y)) :
  (Op.eqFields (d+1) xs ys (f::fs)).run Try.prog w=if x=y then (Op.eqFields (d+1) xs ys fs).run Try.prog w else .ok false w:=by
 simp only [Op.eqFields,if_pos hn,Sem.run_bind,ht,part2 xs _ _ w hx,part2 ys _ _ w hy,Result.andThen_ok,eq2];by_cases h:x=y<;>simp [h]
theorem eqf3 (d:Nat) (xs ys:Array Value) (f:Field) (fs:List Field) (x y:Int) (w:World) (hn:f.name ≠ "_") (ht:f.type=3) (hx:xs[f.offset]?=some (.int .i64 x)) (hy:ys[f.offset]?=some (.int .i64 y)) :
  (Op.eqFields (d+1) xs ys (f::fs)).run Try.prog w=if x=y then (Op.eqFields (d+1) xs ys fs).run Try.prog w else .ok false w:=by
 simp only [Op.eqFields,if_pos hn,Sem.run_bind,ht,part3 xs _ _ w hx,part3 ys _ _ w hy,Result.andThen_ok,eq3];by_cases h:x=y<;>simp [h]
theorem neq45 (p:OpD) (w:World):(binOp .neq 45 (.agg #[.int .i64 p.kind,.int .i64 p.a,.int .i64 p.b,.int .i64 p.c]) (.agg #[.int .i64 p.kind,.int .i64 p.a,.int .i64 p.b,.int .i64 p.c])).run Try.prog w = .ok (.bool false) w:=by
 have hfs:Try.prog.underlying 45=some (.struct (Try.prog.fieldsOf 45)):=by simp [Program.fieldsOf,Try.underlying45]
 have h:=run_equalIn_struct (P:=Try.prog) w 9999 45 #[.int .i64 p.kind,.int .i64 p.a,.int .i64 p.b,.int .i64 p.c] #[.int .i64 p.kind,.int .i64 p.a,.int .i64 p.b,.int .i64 p.c] hfs held45;have h2:(Op.equal 45 (.agg #[.int .i64 p.kind,.int .i64 p.a,.int .i64 p.b,.int .i64 p.c]) (.agg #[.int .i64 p.kind,.int .i64 p.a,.int .i64 p.b,.int .i64 p.c])).run Try.prog w = .ok true w:=by
  refine h.trans ?_;simp only [Program.fieldsOf,Try.underlying45];rw [eqf3 _ _ _ _ _ p.kind p.kind w (by decide) rfl rfl rfl,eqf2 _ _ _ _ _ p.a p.a w (by decide) rfl rfl rfl,eqf2 _ _ _ _ _ p.b p.b w (by decide) rfl rfl rfl,eqf2 _ _ _ _ _ p.c p.c w (by decide) rfl rfl rfl];simp [Op.eqFields,Sem.run_pure]
 simp only [binOp,Sem.run_bind,h2,Result.andThen_ok,Sem.run_pure];rfl
def Rest1 (LL:List (List OpD)) (xs:List Value) (i k:Nat) (w:World):Prop :=
 ∀ i' V L k' p g,xs[i']?=some V→LL[i']?=some L→L[k']?=some p→V.ownBlock=some g→(i < i'∨i=i'∧k≤k')→zhn w g (k' * 4) p
theorem zjn {w w':World} {b o:Nat} {p:OpD} (h:zhn w b o p) (e:w'.heap[b]?=w.heap[b]?):zhn w' b o p:=by
 obtain ⟨h0,h1,h2,h3⟩:=h;exact ⟨(World.cell?_of_block e).trans h0,(World.cell?_of_block e).trans h1,(World.cell?_of_block e).trans h2,(World.cell?_of_block e).trans h3⟩
theorem Rest1.same {LL:List (List OpD)} {xs:List Value} {i k:Nat} {w w':World} (h:Rest1 LL xs i k w) (e:w'.heap=w.heap):Rest1 LL xs i k w':=fun i' V L k' p g h1 h2 h3 h4 h5=>zjn (h i' V L k' p g h1 h2 h3 h4 h5) (by rw [e])
theorem Rest1.next {LL:List (List OpD)} {xs:List Value} {i k:Nat} {w:World} {L:List OpD} (h:Rest1 LL xs i k w) (hL:LL[i]?=some L) (hk:L.length≤k):Rest1 LL xs (i+1) 0 w:=fun i' V L' k' p g h1 h2 h3 h4 h5=>by
 refine h i' V L' k' p g h1 h2 h3 h4 ?_;rcases h5 with h5|⟨h5,_⟩
 ·exact .inl (by omega)
 ·exact .inl (by omega)
def put4 (w:World) (g o:Nat):World:=(((w.setCell ⟨g,o,none⟩ (.int .i64 99)).setCell ⟨g,o+1,none⟩ (.int .i64 0)).setCell ⟨g,o+2,none⟩ (.int .i64 0)).setCell ⟨g,o+3,none⟩ (.int .i64 0)
theorem zxn {w:World} {g o b:Nat} (h:b≠g):(put4 w g o).heap[b]?=w.heap[b]?:=by
 unfold put4;rw [Below.heap_setCell _ _ _ _ h,Below.heap_setCell _ _ _ _ h,Below.heap_setCell _ _ _ _ h,Below.heap_setCell _ _ _ _ h]
theorem zib {w:World} {g o j:Nat} {cur:Array Value} {t:TypeId} (hg:w.heap[g]?=some (.cells cur t (0,0))) (h:o+4≤j):(put4 w g o).cell? ⟨g,j,none⟩=w.cell? ⟨g,j,none⟩:=by
 have h1:=zam hg o (.int .i64 99);have h2:=zam h1 (o+1) (.int .i64 0);have h3:=zam h2 (o+2) (.int .i64 0);have h4:=zam h3 (o+3) (.int .i64 0);unfold put4;rw [zac h4 j,zac hg j,Array.getElem?_setIfInBounds_ne (by omega),Array.getElem?_setIfInBounds_ne (by omega),Array.getElem?_setIfInBounds_ne (by omega),Array.getElem?_setIfInBounds_ne (by omega)]
theorem Rest1.put {lo:Nat} {LL:List (List OpD)} {xs:List Value} {i k n:Nat} {w W:World} {L:List OpD} {V:Value} {g:Nat} {cur:Array Value} (h:Rest1 LL xs i k w) (hX:CpX lo LL n xs W) (hV:xs[i]?=some V) (hL:LL[i]?=some L) (hg:V.ownBlock=some g) (hc:w.heap[g]?=some (.cells cur 45 (0,0))):Rest1 LL xs i (k+1) (put4 w g (k * 4)):=fun i' V' L' k' p g' h1 h2 h3 h4 h5=>by
 have h0:=h i' V' L' k' p g' h1 h2 h3 h4 (by rcases h5 with h5|⟨h5,h6⟩<;>omega);by_cases e:g'=g
 ·subst e;have ei:=hX.dis i' i V' V g' h1 hV h4 hg;subst ei;have hk:k+1≤k':=by rcases h5 with h5|⟨_,h6⟩<;>omega
  obtain ⟨c0,c1,c2,c3⟩:=h0;exact ⟨(zib hc (by omega)).trans c0,(zib hc (by omega)).trans c1,(zib hc (by omega)).trans c2,(zib hc (by omega)).trans c3⟩
 ·exact zjn h0 (zxn e)
theorem Mid.put4 {lo p0 p1:Nat} {W w:World} (h:Mid lo p0 p1 W w) {g:Nat} {cur:Array Value} (hg:w.heap[g]?=some (.cells cur 45 (0,0))) (h1:lo≤g) (h2:g < p0) (o:Nat):Mid lo p0 p1 W (put4 w g o):=by
 have hm:W.heap.size≤g∨Mok lo p0 p1 g 45 := .inr (.inl ⟨h1,h2,rfl⟩);have s1:=h.set hg hm o (.int .i64 99);have e1:=zam hg o (.int .i64 99);have s2:=s1.set e1 hm (o+1) (.int .i64 0);have e2:=zam e1 (o+1) (.int .i64 0);have s3:=s2.set e2 hm (o+2) (.int .i64 0);have e3:=zam e2 (o+2) (.int .i64 0);exact s3.set e3 hm (o+3) (.int .i64 0)
section
variable {Z:Machine→Trace→Prop} {cs:List Frame} {W Wi:World} {R:List Item}
theorem loop1 {z:Nat→Value} {a0 lo p0 p1 n ct ci:Nat} {pt pi:Option Addr} {vw vs vm:Value} {LL:List (List OpD)} {xs:List Value} (z2:z 2 = .pointer (some ⟨a0,0,none⟩)) (z7:z 7 = .slice pt n ct)
  (hb:W.heap[a0]?=some (.cells #[vw,.slice pi n ci,vs,vm] 71 (0,0))) (hT:ThrIn Wi (.slice pi n ci) LL) (hi:∀ b,b < Wi.heap.size→W.heap[b]?=Wi.heap[b]?) (hWi:Wi.heap.size≤lo) (hlo:lo≤p0) (hp:p0≤p1) (hlW:lo≤W.heap.size)
  (hn:LL.length=n) (hn9:n≤1000000000) (hll:∀ L∈LL,L.length≤1000000000) (hrow:W.ownsRow lo 34 1 (.slice pt n ct) n xs) (hX:CpX lo LL n xs W) (hlt:∀ (i:Nat) (V:Value) (g:Nat),xs[i]?=some V→V.ownBlock=some g→g < p0)
  (hret:∀ y w',(∀ j,j < 24→j≠4→j≠11→j≠12→y j=z j)→Mid lo p0 p1 W w'→RM Try.prog Z (G ((base 11).at (A6 y) (.code Y12c::R)) cs) w') :
  RM Try.prog Z (G ((base 11).at (A6 z) (.code Y11c::R)) cs) W:=by
 have hr':=yay fun (y:Nat→Value) w' (h1:∀ j,j < 24→j≠4→j≠11→j≠12→y j=z j) h2=>hret y w' h1 h2;clear hret;have hR0:Rest1 LL xs 0 0 W:=fun i' V L k' p g h1 h2 h3 h4 _=>by
  have hi':i' < n:=by have:=(yai.1 h2).1;omega
  have ho:=hX.rows i' V L hi' h1 h2;have hk':=(yai.1 h3).1;rcases ho.2 with ⟨e,_⟩|⟨g',cap,cur,e,_,q1,q2,_,q3,q4⟩
  ·rw [e] at h4;cases h4
  ·rw [e] at h4;simp only [Value.ownBlock,Option.some.injEq] at h4;subst h4;have get:∀ r,r < 4→cur[k' * 4+r]?=(opC p)[r]?:=fun r hr=>by
    rw [← zj9 L k' r p h3 hr,← q4,List.getElem?_take_of_lt (by omega)];simp
   unfold zhn;rw [← Nat.add_zero (k' * 4)];rw [zac q1,zac q1,zac q1,zac q1,get 0 (by omega),Nat.add_zero,get 1 (by omega),get 2 (by omega),get 3 (by omega)];exact ⟨rfl,rfl,rfl,rfl⟩
 obtain ⟨ia,icap,ei,iob,iln,icp,hic,hio⟩:=hT;simp only [Value.slice.injEq] at ei;obtain ⟨rfl,-,rfl⟩:=ei;have M0:Mid lo p0 p1 W W := .refl;replace hX:=yay hX;replace hrow:=yay hrow;replace hlt:=yay hlt;replace hll:=yay hll;replace hi:=yay hi;replace hic:=yay hic;replace hio:=yay hio;replace hb:=yay hb;replace hn:=yay hn;replace hWi:=yay hWi;replace hlo:=yay hlo;replace hp:=yay hp;replace hlW:=yay hlW;refine zas (c:=Y11c) rm_xc rfl fun R0 hR0'=>?_;rw [show cA Y11c=Code.seq _ _ from rfl]
 unfold A6;simp only [z2,z7];refine zb9 ztq (zab zaf (by kernel_rfl)) rfl (zaa Try.func11) rfl fun wp hwp=>?_;have H0:Hid (Mid lo p0 p1 W wp∧Rest1 LL xs 0 0 wp):=yay ⟨M0.left (.of_sim hwp.heap hwp.outs),hR0.same hwp.heap⟩;clear hwp hR0 M0
 go_wp2_with fail
 go_loopw [11] (fun iv wr=>∃ i:Nat,i≤n∧iv = .int .i64 i∧Hid (Mid lo p0 p1 W wr∧Rest1 LL xs i 0 wr)) (fun iv _=>n - (intOf iv).toNat)
 case atStart=>exact ⟨0,by omega,rfl,H0⟩
 case round =>
  obtain ⟨i,hin,rfl,HI⟩:=hrel;by_cases hlti:i < n
  ·have hlti':(i:Int) < (n:Int):=by omega
   have hi0:(0:Int)≤(i:Int):=by omega
   obtain ⟨L,hL⟩:∃ L,LL[i]?=some L:=⟨_,List.getElem?_eq_getElem (by rw [hn.out];exact hlti)⟩;have hLl:=hll.out L (List.mem_of_getElem? hL);have hxl:xs.length=n:=by have:=hrow.out.1;omega
   obtain ⟨V,hV⟩:∃ V,xs[i]?=some V:=⟨_,List.getElem?_eq_getElem (by rw [hxl];exact hlti)⟩;have hVr:=hX.out.rows i V L hlti hV hL;obtain ⟨vp,vc,rfl⟩:=zbb hVr;obtain ⟨tb,rfl,htb⟩:∃ tb,pt=some ⟨tb,0,none⟩∧∃ cc,W.heap[tb]?=some (.cells cc 34 (0,0))∧cc[i]?=some (.slice vp L.length vc):=by
    rcases hrow.out.2 with ⟨_,q⟩|⟨g,cap,cur,e,_,q1,_,_,_,q4⟩
    ·omega
    ·simp only [Value.slice.injEq] at e;obtain ⟨rfl,_,_⟩:=e;refine ⟨g,rfl,cur,q1,?_⟩;rw [← q4,List.getElem?_take_of_lt (by omega)] at hV
     simpa using hV
   obtain ⟨tcc,htb1,htb2⟩:=htb;obtain ⟨ib,io,rfl,hic1⟩:=hic.out (by intro q;rw [q] at hL;simp at hL);have hici:=hic1 i L hL;obtain ⟨_,hlnL,_,hioc⟩:=hio.out i L hL;rw [hlnL] at hici;have K7:Hid (∀ w,Mid lo p0 p1 W w→w.cell? ⟨tb,i,none⟩=some (.slice vp L.length vc)):=yay fun w hw=>by
    rw [zac (hw.kind htb1 (.inl (by decide))) i];exact htb2
   have K2:Hid (∀ w,Mid lo p0 p1 W w→w.cell? ⟨a0,1,none⟩=some (.slice (some ⟨ib,io,none⟩) n ci)):=yay fun w hw=>by
    rw [zac (hw.kind hb.out (.inl (by decide))) 1];rfl
   have low:Hid (∀ w,Mid lo p0 p1 W w→∀ (a:Addr) v,Wi.cell? a=some v→w.cell? a=some v):=yay fun w hw a v hv=>by
    have hlt':=World.block_lt_of_cell? Wi _ hv;refine (World.cell?_of_block (w:=Wi) ?_).trans hv;exact (hw.low hlo.out hlW.out (by have:=hWi.out;omega)).trans (hi.out _ hlt')
   replace hici:=yay hici;replace hioc:=yay hioc;replace hVr:=yay hVr;replace hV:=yay hV;replace hL:=yay hL;replace htb1:=yay htb1;replace htb2:=yay htb2;replace hxl:=yay hxl;clear hic1 hlnL;obtain ⟨ln,hln⟩:∃ z,L.length=z:=⟨_,rfl⟩;rw [hln] at hLl K7 hici;replace hln:=yay hln
   go_wp2_with fail
   go_loopw [12] (fun kv wr=>∃ k:Nat,k≤ln∧kv = .int .i64 k∧Hid (Mid lo p0 p1 W wr∧Rest1 LL xs i k wr)) (fun kv _=>ln - (intOf kv).toNat)
   case atStart=>exact ⟨0,by omega,rfl,HI⟩
   case round =>
    obtain ⟨k,hkn,rfl,HK⟩:=hrel;obtain ⟨hM,hRst⟩:=HK.out;have r7:=K7.out _ hM;by_cases hltk:k < ln
    ·have hltk':(k:Int) < (ln:Int):=by omega
     have hk0:(0:Int)≤(k:Int):=by omega
     obtain ⟨p,hpp⟩:∃ p,L[k]?=some p:=⟨_,List.getElem?_eq_getElem (by rw [hln.out];exact hltk)⟩;obtain ⟨g,rfl,hge⟩:∃ g,vp=some ⟨g,0,none⟩∧lo≤g:=by
      rcases hVr.out.2 with ⟨e,q⟩|⟨g,cap,cur,e,q0,_⟩
      ·have:=hln.out;omega
      ·simp only [Value.slice.injEq] at e;exact ⟨g,e.1,q0⟩
     have hgp:=hlt.out i _ g hV.out rfl;obtain ⟨c0,c1,c2,c3⟩:=hRst i _ L k p g hV.out hL.out hpp rfl (.inr ⟨rfl,yax _⟩);obtain ⟨gc,hgc⟩:∃ cc,wr.heap[g]?=some (.cells cc 45 (0,0)):=by
      obtain ⟨cc,hcc⟩:=zaj hVr.out (g:=g) rfl;obtain ⟨c',q,_⟩:=hM.shp g cc 45 hcc;exact ⟨c',q⟩
     obtain ⟨jb,jo,ejo,hjc⟩:=hioc.out (by intro q;rw [q] at hpp;simp at hpp);obtain ⟨d0,d1,d2,d3⟩:=hjc k p hpp;have r2:=K2.out _ hM;have ri:=low.out _ hM _ _ hici.out;rw [ejo] at ri;have e0:=low.out _ hM _ _ d0;have e1:=low.out _ hM _ _ d1;have e2:=low.out _ hM _ _ d2;have e3:=low.out _ hM _ _ d3;have f0:=zap hgc (k * 4);have f1:=zap hgc (k * 4+1);have f2:=zap hgc (k * 4+2);have f3:=zap hgc (k * 4+3);have hneq:=fun w=>neq45 p w;have nx:IntKind.i64.wrap ((k:Int)+1)=((k+1:Nat):Int):=by rw [IntKind.wrap_i64];omega
     have HN:Hid (Mid lo p0 p1 W (put4 wr g (k * 4)).drew∧Rest1 LL xs i (k+1) (put4 wr g (k * 4)).drew):=yay ⟨(hM.put4 hgc hge hgp _).left ⟨fun _ _=>rfl,yax _,rfl,rfl⟩,(hRst.put hX.out hV.out hL.out rfl hgc).same rfl⟩;have r7':wr.drew.cell? ⟨tb,i,none⟩=some (.slice (some ⟨g,0,none⟩) ln vc):=r7;replace hgc:=yay hgc;unfold put4 at HN;clear d0 d1 d2 d3 hjc hM hRst hpp hge hgp HK HI;have HKK:Hid (∀ w':World,w'.heap=wr.heap→w'.cell? ⟨tb,i,none⟩=some (.slice (some ⟨g,0,none⟩) ln vc)∧w'.cell? ⟨g,k * 4,none⟩=some (.int .i64 p.kind)∧w'.cell? ⟨g,k * 4+1,none⟩=some (.int .i64 p.a)∧w'.cell? ⟨g,k * 4+2,none⟩=some (.int .i64 p.b)∧w'.cell? ⟨g,k * 4+3,none⟩=some (.int .i64 p.c)∧w'.cell? ⟨a0,1,none⟩=some (.slice (some ⟨ib,io,none⟩) n ci)∧w'.cell? ⟨ib,io+i,none⟩=some (.slice (some ⟨jb,jo,none⟩) ln (icp i))∧w'.cell? ⟨jb,jo+k * 4,none⟩=some (.int .i64 p.kind)∧w'.cell? ⟨jb,jo+k * 4+1,none⟩=some (.int .i64 p.a)∧w'.cell? ⟨jb,jo+k * 4+2,none⟩=some (.int .i64 p.b)∧w'.cell? ⟨jb,jo+k * 4+3,none⟩=some (.int .i64 p.c)):=yay fun w' h=>by
      have kk:∀ (a:Addr) v,wr.cell? a=some v→w'.cell? a=some v:=fun a v hv=>(World.cell?_of_block (w:=wr) (by rw [h])).trans hv;exact ⟨kk _ _ r7,kk _ _ c0,kk _ _ c1,kk _ _ c2,kk _ _ c3,kk _ _ r2,kk _ _ ri,kk _ _ e0,kk _ _ e1,kk _ _ e2,kk _ _ e3⟩
     go_upto_region 18 with fail
     go_cut [108] from 93 to 108 (fun v wx=>v = .bool false∧wx=wr.drew)
     case first =>
      clear f0 f1 f2 f3 r7' HN nx
      go_region_held3 (fun w'=>w'.cell? ⟨tb,i,none⟩=some (.slice (some ⟨g,0,none⟩) ln vc)∧w'.cell? ⟨g,k * 4,none⟩=some (.int .i64 p.kind)∧w'.cell? ⟨g,k * 4+1,none⟩=some (.int .i64 p.a)∧w'.cell? ⟨g,k * 4+2,none⟩=some (.int .i64 p.b)∧w'.cell? ⟨g,k * 4+3,none⟩=some (.int .i64 p.c)∧w'.cell? ⟨a0,1,none⟩=some (.slice (some ⟨ib,io,none⟩) n ci)∧w'.cell? ⟨ib,io+i,none⟩=some (.slice (some ⟨jb,jo,none⟩) ln (icp i))∧w'.cell? ⟨jb,jo+k * 4,none⟩=some (.int .i64 p.kind)∧w'.cell? ⟨jb,jo+k * 4+1,none⟩=some (.int .i64 p.a)∧w'.cell? ⟨jb,jo+k * 4+2,none⟩=some (.int .i64 p.b)∧w'.cell? ⟨jb,jo+k * 4+3,none⟩=some (.int .i64 p.c))
       (exact HKK.out _ rfl)
       (fail)
      all_goals (go_wp2_with fail;go_meet)
      all_goals exact ⟨rfl,rfl⟩
     case rest =>
      obtain ⟨rfl,ew⟩:=hcut;obtain rfl:=ew.symm;clear e0 e1 e2 e3 r2 ri hneq
      go_wp2_with fail
      refine ⟨⟨k+1,by omega,by rw [Int.natCast_add];rfl,HN⟩,by simp [intOf];omega⟩
    ·have hltk':¬ (k:Int) < (ln:Int):=by omega
     obtain rfl:k=ln:=by omega
     have HN:Hid (Mid lo p0 p1 W wr∧Rest1 LL xs (i+1) 0 wr):=yay ⟨hM,hRst.next hL.out (by rw [hln.out];exact yax _)⟩
     have nx:IntKind.i64.wrap ((i:Int)+1)=((i+1:Nat):Int):=by rw [IntKind.wrap_i64];omega
     clear hM hRst HK HI
     go_wp2_with fail
     refine ⟨⟨i+1,by omega,by rw [Int.natCast_add];rfl,HN⟩,by simp [intOf];omega⟩
  ·have hlti':¬ (i:Int) < (n:Int):=by omega
   go_wp2_with fail
   refine fun w2 h2=>?_;have hF:=HI.out.1.left (.of_sim h2.heap h2.outs);obtain rfl:=hR0'.out;rw [zhm _ rfl];refine hr'.out _ w2 (fun j hj hne0 hne hne2=>?_) hF;rcases j with _|_|_|_|_|_|_|_|_|_|_|_|_|_|_|_|_|_|_|_|_|_|_|_|j<;>first|rfl|exact absurd rfl hne0|exact absurd rfl hne|exact absurd rfl hne2|exact z2.symm|exact z7.symm|omega
end
theorem znf {w:World} {N n n' c:Nat} {a:Option Addr} {t:TypeId} {z:Nat} {l:List Value} (h:w.ownsRow N t z (.slice a n c) n' l):n'≤c∧c≤maxLen:=by
 rcases h.2 with ⟨e,e0⟩|⟨g,cap,cur,e,_,_,hc,hm,_⟩
 ·simp only [Value.slice.injEq] at e;obtain ⟨_,rfl,rfl⟩:=e;unfold maxLen;omega
 ·simp only [Value.slice.injEq] at e;obtain ⟨_,_,rfl⟩:=e;exact ⟨hc,hm⟩
section
variable {Z:Machine→Trace→Prop} {cs:List Frame} {W w:World} {R:List Item}
theorem loop2 {z:Nat→Value} {A lo p0 p1 ls cps:Nat} {ps:Option Addr} {v0 v1 v2 v3:Value} {xs:List Value} (z9:z 9 = .pointer (some ⟨A,0,none⟩)) (hA:W.heap[A]?=some (.cells #[v0,v1,.slice ps ls cps,v3] 31 (0,0))) (hr:RowB p0 p1 W 2 1 (.slice ps ls cps) ls xs) (hM:Mid lo p0 p1 W w)
  (hret:∀ y w',(∀ j,j < 24→j≠13→y j=z j)→Mid lo p0 p1 W w'→RM Try.prog Z (G ((base 11).at (A6 y) (.code Y13c::R)) cs) w') :
  RM Try.prog Z (G ((base 11).at (A6 z) (.code Y12c::R)) cs) w:=by
 have hr':=yay fun (y:Nat→Value) w' (h1:∀ j,j < 24→j≠13→y j=z j) h2=>hret y w' h1 h2;clear hret;have hl9:ls≤9223372036854775807:=by
  have:=znf hr.row;unfold maxLen at this;omega
 have KA:Hid (∀ w,Mid lo p0 p1 W w→w.cell? ⟨A,2,none⟩=some (.slice ps ls cps)):=yay fun w hw=>by
  rw [zac (hw.kind hA (.inl (by decide))) 2];rfl
 replace hr:=yay hr;clear hA;refine zas (c:=Y12c) rm_xc rfl fun R0 hR0=>?_;rw [show cA Y12c=Code.seq _ _ from rfl]
 unfold A6;simp only [z9];refine zb9 ztq (zab zaf (by kernel_rfl)) rfl (zaa Try.func11) rfl fun wp hwp=>?_;have H0:Hid (Mid lo p0 p1 W wp):=yay (hM.left (.of_sim hwp.heap hwp.outs));clear hwp hM
 go_wp2_with fail
 go_loopw [13] (fun iv wr=>∃ i:Nat,i≤ls∧iv = .int .i64 i∧Hid (Mid lo p0 p1 W wr)) (fun iv _=>ls - (intOf iv).toNat)
 case atStart=>exact ⟨0,by omega,rfl,H0⟩
 case round =>
  obtain ⟨i,hil,rfl,HI⟩:=hrel;have q0:=KA.out _ HI.out;by_cases hlt:i < ls
  ·have hlt':(i:Int) < (ls:Int):=by omega
   have hi0:(0:Int)≤(i:Int):=by omega
   have nx:IntKind.i64.wrap ((i:Int)+1)=((i+1:Nat):Int):=by rw [IntKind.wrap_i64];omega
   obtain ⟨g,rfl,hg0,hg1,cur,hgc,hcs⟩:∃ g,ps=some ⟨g,0,none⟩∧p0≤g∧g < p1∧∃ cur:Array Value,W.heap[g]?=some (.cells cur 2 (0,0))∧ls≤cur.size:=by
    rcases hr.out.row.2 with ⟨_,q⟩|⟨g,cap,cur,e,b0,q1,q2,_,q3,_⟩
    ·omega
    ·simp only [Value.slice.injEq] at e;obtain ⟨rfl,_,rfl⟩:=e;exact ⟨g,rfl,b0,hr.out.lt g rfl,cur,q1,by omega⟩
   obtain ⟨c',hc1,hc2⟩:=HI.out.shp g cur 2 hgc;obtain ⟨old,hold⟩:∃ v,wr.cell? ⟨g,i,none⟩=some v:=⟨_,(zac hc1 i).trans (Array.getElem?_eq_getElem (by omega))⟩;have f0:=zap hc1 i;have HN:Hid (Mid lo p0 p1 W (wr.setCell ⟨g,i,none⟩ (.int .i64 (-1)))):=yay (HI.out.set hc1 (.inr (.inr ⟨hg0,hg1,by decide⟩)) i _);clear hc1 hc2 hgc hcs hg0 hg1 HI
   go_wp2_with fail
   refine ⟨⟨i+1,by omega,by rw [Int.natCast_add];rfl,HN⟩,by simp [intOf];omega⟩
  ·have hlt':¬ (i:Int) < (ls:Int):=by omega
   go_wp2_with fail
   refine fun w2 h2=>?_;have hF:=HI.out.left (.of_sim h2.heap h2.outs);obtain rfl:=hR0.out;rw [zhm _ rfl];refine hr'.out _ w2 (fun j hj hne=>?_) hF;rcases j with _|_|_|_|_|_|_|_|_|_|_|_|_|_|_|_|_|_|_|_|_|_|_|_|j<;>first|rfl|exact absurd rfl hne|exact z9.symm|omega
theorem loop3 {z:Nat→Value} {A lo p0 p1 ls cps:Nat} {ps:Option Addr} {v0 v1 v2 v3:Value} {xs:List Value} (z9:z 9 = .pointer (some ⟨A,0,none⟩)) (hA:W.heap[A]?=some (.cells #[v0,.slice ps ls cps,v2,v3] 31 (0,0))) (hr:RowB p0 p1 W 3 1 (.slice ps ls cps) ls xs) (hM:Mid lo p0 p1 W w)
  (hret:∀ y w',(∀ j,j < 24→j≠14→y j=z j)→Mid lo p0 p1 W w'→RM Try.prog Z (G ((base 11).at (A6 y) (.code Y14c::R)) cs) w') :
  RM Try.prog Z (G ((base 11).at (A6 z) (.code Y13c::R)) cs) w:=by
 have hr':=yay fun (y:Nat→Value) w' (h1:∀ j,j < 24→j≠14→y j=z j) h2=>hret y w' h1 h2;clear hret;have hl9:ls≤9223372036854775807:=by
  have:=znf hr.row;unfold maxLen at this;omega
 have KA:Hid (∀ w,Mid lo p0 p1 W w→w.cell? ⟨A,1,none⟩=some (.slice ps ls cps)):=yay fun w hw=>by
  rw [zac (hw.kind hA (.inl (by decide))) 1];rfl
 replace hr:=yay hr;clear hA;refine zas (c:=Y13c) rm_xc rfl fun R0 hR0=>?_;rw [show cA Y13c=Code.seq _ _ from rfl]
 unfold A6;simp only [z9];refine zb9 ztq (zab zaf (by kernel_rfl)) rfl (zaa Try.func11) rfl fun wp hwp=>?_;have H0:Hid (Mid lo p0 p1 W wp):=yay (hM.left (.of_sim hwp.heap hwp.outs));clear hwp hM
 go_wp2_with fail
 go_loopw [14] (fun iv wr=>∃ i:Nat,i≤ls∧iv = .int .i64 i∧Hid (Mid lo p0 p1 W wr)) (fun iv _=>ls - (intOf iv).toNat)
 case atStart=>exact ⟨0,by omega,rfl,H0⟩
 case round =>
  obtain ⟨i,hil,rfl,HI⟩:=hrel;have q0:=KA.out _ HI.out;by_cases hlt:i < ls
  ·have hlt':(i:Int) < (ls:Int):=by omega
   have hi0:(0:Int)≤(i:Int):=by omega
   have nx:IntKind.i64.wrap ((i:Int)+1)=((i+1:Nat):Int):=by rw [IntKind.wrap_i64];omega
   obtain ⟨g,rfl,hg0,hg1,cur,hgc,hcs⟩:∃ g,ps=some ⟨g,0,none⟩∧p0≤g∧g < p1∧∃ cur:Array Value,W.heap[g]?=some (.cells cur 3 (0,0))∧ls≤cur.size:=by
    rcases hr.out.row.2 with ⟨_,q⟩|⟨g,cap,cur,e,b0,q1,q2,_,q3,_⟩
    ·omega
    ·simp only [Value.slice.injEq] at e;obtain ⟨rfl,_,rfl⟩:=e;exact ⟨g,rfl,b0,hr.out.lt g rfl,cur,q1,by omega⟩
   obtain ⟨c',hc1,hc2⟩:=HI.out.shp g cur 3 hgc;obtain ⟨old,hold⟩:∃ v,wr.cell? ⟨g,i,none⟩=some v:=⟨_,(zac hc1 i).trans (Array.getElem?_eq_getElem (by omega))⟩;have f0:=zap hc1 i;have HN:Hid (Mid lo p0 p1 W (wr.setCell ⟨g,i,none⟩ (.int .i64 (-1)))):=yay (HI.out.set hc1 (.inr (.inr ⟨hg0,hg1,by decide⟩)) i _);clear hc1 hc2 hgc hcs hg0 hg1 HI
   go_wp2_with fail
   refine ⟨⟨i+1,by omega,by rw [Int.natCast_add];rfl,HN⟩,by simp [intOf];omega⟩
  ·have hlt':¬ (i:Int) < (ls:Int):=by omega
   go_wp2_with fail
   refine fun w2 h2=>?_;have hF:=HI.out.left (.of_sim h2.heap h2.outs);obtain rfl:=hR0.out;rw [zhm _ rfl];refine hr'.out _ w2 (fun j hj hne=>?_) hF;rcases j with _|_|_|_|_|_|_|_|_|_|_|_|_|_|_|_|_|_|_|_|_|_|_|_|j<;>first|rfl|exact absurd rfl hne|exact z9.symm|omega
end
def RA (lo hi:Nat) (w:World) (v:Value):Prop :=
 v = .slice none 0 0∨∃ (g m cap:Nat) (cur:Array Value),v = .slice (some ⟨g,0,none⟩) m cap∧lo≤g∧g < hi∧w.heap[g]?=some (.cells cur 42 (0,0))∧m≤cap∧(cap≤maxLen∧m≤1000000000)∧cur.size=cap * 3 ∧
  ∀ k,k < m→∃ u n ys,cur[k * 3+2]?=some u∧n≤1000000000∧RowB lo hi w 2 1 u n ys
theorem RowAns.ra {lo hi:Nat} {w:World} {v:Value} (h:RowAns lo hi w v):RA lo hi w v:=by
 obtain ⟨m,xs,⟨h1,h2⟩,h0,h3⟩:=h;rcases h1.2 with ⟨rfl,_⟩|⟨g,cap,cur,rfl,q1,q2,q3,q4,q5,q6⟩
 ·exact .inl rfl
 ·refine .inr ⟨g,m,cap,cur,rfl,q1,h2 g rfl,q2,q3,⟨q4,h0⟩,q5,fun k hk=>?_⟩;obtain ⟨u,n,ys,e1,e0,e2⟩:=h3 k hk;refine ⟨u,n,ys,?_,e0,e2⟩;rw [← q6,List.getElem?_take_of_lt (by omega)] at e1
  simpa using e1
theorem RA.keep {lo hi:Nat} {w w':World} {v:Value} (h:RA lo hi w v) (hs:ShpW w w') (hk:∀ (b:Nat) (c:Array Value),v.ownBlock=some b→w.heap[b]?=some (.cells c 42 (0,0))→w'.heap[b]?=w.heap[b]?):RA lo hi w' v:=by
 rcases h with rfl|⟨g,m,cap,cur,rfl,q1,q2,q3,q4,q5,q6,q7⟩
 ·exact .inl rfl
 ·refine .inr ⟨g,m,cap,cur,rfl,q1,q2,(hk g cur rfl q3).trans q3,q4,q5,q6,fun k hkm=>?_⟩;obtain ⟨u,n,ys,e1,e0,e2⟩:=q7 k hkm;obtain ⟨zs,e3⟩:=e2.shp hs;exact ⟨u,n,zs,e1,e0,e3⟩
theorem RA.turn {lo hi:Nat} {w w':World} {v:Value} (h:RA lo hi w v) (hs:ShpW w w') (hk:∀ (g m cap:Nat) (cur:Array Value),v = .slice (some ⟨g,0,none⟩) m cap→w.heap[g]?=some (.cells cur 42 (0,0))→∃ cur':Array Value,w'.heap[g]?=some (.cells cur' 42 (0,0))∧cur'.size=cur.size∧∀ k,k < m→cur'[k * 3+2]?=cur[k * 3+2]?∨cur'[k * 3+2]?=some (.slice none 0 0)):RA lo hi w' v:=by
 rcases h with rfl|⟨g,m,cap,cur,rfl,q1,q2,q3,q4,q5,q6,q7⟩
 ·exact .inl rfl
 ·obtain ⟨cur',e1,e2,e3⟩:=hk g m cap cur rfl q3;refine .inr ⟨g,m,cap,cur',rfl,q1,q2,e1,q4,q5,by omega,fun k hkm=>?_⟩;rcases e3 k hkm with e|e
  ·obtain ⟨u,n,ys,f1,f0,f2⟩:=q7 k hkm;obtain ⟨zs,f3⟩:=f2.shp hs;exact ⟨u,n,zs,e.trans f1,f0,f3⟩
  ·exact ⟨_,0,[],e,Nat.zero_le _,⟨World.ownsRow_nil _ _ _ _,fun g hg=>by cases hg⟩⟩
structure LA (lo p0 p1 n:Nat) (c:Array Value) (W:World) (i k:Nat) (w:World):Prop where
 mid:Mid lo p0 p1 W w
 rows:∀ j,j < n→RA p0 p1 w (c.getD j undef)
 neg:∀ j k' g m cap,(j < i∨j=i∧k' < k)→j < n→c.getD j undef = .slice (some ⟨g,0,none⟩) m cap→k' < m→w.cell? ⟨g,k' * 3+1,none⟩=some (.int .i64 (-1))
section
variable {lo p0 p1 n:Nat} {c:Array Value} {W w w':World} {i k:Nat}
theorem LA.keep (h:LA lo p0 p1 n c W i k w) (hm:Mid lo p0 p1 W w') (hs:ShpW w w') (hk:∀ (b:Nat) (c:Array Value),w.heap[b]?=some (.cells c 42 (0,0))→w'.heap[b]?=w.heap[b]?):LA lo p0 p1 n c W i k w' :=
 ⟨hm,fun j hj=>(h.rows j hj).keep hs fun b c _ hb=>hk b c hb,fun j k' g m cap h1 h2 h3 h4=>by
  rcases h.rows j h2 with e|⟨g',m',cap',cur,e,_,_,q3,_⟩
  ·rw [e] at h3;cases h3
  ·rw [h3] at e;simp only [Value.slice.injEq,Option.some.injEq,Addr.mk.injEq] at e;obtain ⟨⟨rfl,_⟩,_⟩:=e;exact (World.cell?_of_block (hk g cur q3)).trans (h.neg j k' g m cap h1 h2 h3 h4)⟩
theorem LA.left (h:LA lo p0 p1 n c W i k w) (l:LeftW w w'):LA lo p0 p1 n c W i k w' :=
 h.keep (h.mid.left l) (.same l.same) fun b c hb=>l.same b (yah.1 hb).1
theorem LA.set2 (h:LA lo p0 p1 n c W i k w) {g:Nat} {cur:Array Value} (hg:w.heap[g]?=some (.cells cur 2 (0,0))) (h0:p0≤g) (h1:g < p1) (off:Nat) (v:Value):LA lo p0 p1 n c W i k (w.setCell ⟨g,off,none⟩ v) :=
 h.keep (h.mid.set hg (.inr (.inr ⟨h0,h1,.inl rfl⟩)) off v) (.set w g off v) fun b c hb=>Below.heap_setCell _ _ _ _ fun e=>by
  subst e;rw [hg] at hb;simp at hb
theorem LA.app2 (h:LA lo p0 p1 n c W i k w) {base base' sz sz' n1 n2:Nat} {v v':Value} {xs ys:List Value} (hr:w.ownsRow base 2 sz v n1 xs) (hr':w'.ownsRow base' 2 sz v' n2 ys) (hg:w.grownBy w' v.ownBlock) (hd:(∃ p n1 n2 c,v = .slice p n1 c∧v' = .slice p n2 c)∨∀ b,b < w.heap.size→w'.heap[b]?=w.heap[b]?) (hm:∀ g,v.ownBlock=some g→W.heap.size≤g∨Mok lo p0 p1 g 2):LA lo p0 p1 n c W i k w':=by
 have hmid:=h.mid.app (sz':=sz') hr hr' hg hd hm;have hs:ShpW w w':=by
  have:=(Mid.refl (lo:=0) (p0:=0) (p1:=w.heap.size) (W:=w)).app (sz':=sz') hr hr' hg hd fun g hgb => .inr (.inr ⟨Nat.zero_le _,(za0 hr hgb).2,.inl rfl⟩);exact this.shp
 refine h.keep hmid hs fun b c hb=>?_;rcases hd with _|hd
 ·refine hg.block b (yah.1 hb).1 fun q=>?_;obtain ⟨cc,hcc⟩:=zaj hr q.symm;rw [hb] at hcc;simp at hcc
 ·exact hd b (yah.1 hb).1
def zqm (w:World) (g o:Nat):World:=((w.setCell ⟨g,o,none⟩ (.bool false)).setCell ⟨g,o+1,none⟩ (.int .i64 (-1))).setCell ⟨g,o+2,none⟩ (.slice none 0 0)
theorem zoz {g o b:Nat} (h:b≠g):(zqm w g o).heap[b]?=w.heap[b]?:=by
 unfold zqm;rw [Below.heap_setCell _ _ _ _ h,Below.heap_setCell _ _ _ _ h,Below.heap_setCell _ _ _ _ h]
theorem zxo {g o:Nat} {cur:Array Value} {t:TypeId} (hg:w.heap[g]?=some (.cells cur t (0,0))):(zqm w g o).heap[g]?=some (.cells (((cur.setIfInBounds o (.bool false)).setIfInBounds (o+1) (.int .i64 (-1))).setIfInBounds (o+2) (.slice none 0 0)) t (0,0)) :=
 zam (zam (zam hg o (.bool false)) (o+1) (.int .i64 (-1))) (o+2) (.slice none 0 0)
theorem LA.put (h:LA lo p0 p1 n c W i k w) (hd:∀ j j' g,j < n→j' < n→(c.getD j undef).ownBlock=some g→(c.getD j' undef).ownBlock=some g→j=j') {g m cap:Nat} (hi:i < n) (e:c.getD i undef = .slice (some ⟨g,0,none⟩) m cap) (hkm:k < m):LA lo p0 p1 n c W i (k+1) (zqm w g (k * 3)):=by
 obtain ⟨cur,q1,q2,q3,q4,q5,q6⟩:∃ cur:Array Value,p0≤g∧g < p1∧w.heap[g]?=some (.cells cur 42 (0,0))∧m≤cap∧cur.size=cap * 3∧True:=by
  rcases h.rows i hi with e1|⟨g',m',cap',cur,e1,q1,q2,q3,q4,_,q6,_⟩
  ·rw [e] at e1;cases e1
  ·rw [e] at e1;simp only [Value.slice.injEq,Option.some.injEq,Addr.mk.injEq] at e1;obtain ⟨⟨rfl,_⟩,rfl,rfl⟩:=e1;exact ⟨cur,q1,q2,q3,q4,q6,trivial⟩
 have hm42:W.heap.size≤g∨Mok lo p0 p1 g 42 := .inr (.inr ⟨q1,q2,.inr (.inr rfl)⟩);have s1:=zam q3 (k * 3) (.bool false);have s2:=zam s1 (k * 3+1) (.int .i64 (-1));have hmid:Mid lo p0 p1 W (zqm w g (k * 3)):=((h.mid.set q3 hm42 _ _).set s1 hm42 _ _).set s2 hm42 _ _;have hs:ShpW w (zqm w g (k * 3)):=((ShpW.set w g (k * 3) (.bool false)).trans (.set _ g (k * 3+1) (.int .i64 (-1)))).trans (.set _ g (k * 3+2) (.slice none 0 0));have at_:=zxo (w:=w) (o:=k * 3) q3;have one:∀ j,j < n→∀ g' m' cap',c.getD j undef = .slice (some ⟨g',0,none⟩) m' cap'→g'=g→j=i:=fun j hj g' m' cap' e1 eg=>hd j i g hj hi (by rw [e1,eg];rfl) (by rw [e];rfl);refine ⟨hmid,fun j hj=>?_,fun j k' g' m' cap' h1 h2 h3 h4=>?_⟩
 ·refine (h.rows j hj).turn hs fun g' m' cap' cur' e1 hc'=>?_;by_cases eg:g'=g
  ·subst eg;rw [q3] at hc';simp only [Option.some.injEq,Obj.cells.injEq,and_true] at hc';subst hc';refine ⟨_,at_,by simp,fun k' hk'=>?_⟩;by_cases ek:k'=k
   ·subst ek;right;rw [Array.getElem?_setIfInBounds_self_of_lt (by simp;have:=Nat.mul_le_mul_right 3 q4;omega)]
   ·left;rw [Array.getElem?_setIfInBounds_ne (by omega),Array.getElem?_setIfInBounds_ne (by omega),Array.getElem?_setIfInBounds_ne (by omega)]
  ·exact ⟨cur',(zoz eg).trans hc',rfl,fun _ _ => .inl rfl⟩
 ·by_cases eg:g'=g
  ·have ej:=one j h2 g' m' cap' h3 eg;subst ej eg;rw [e] at h3;simp only [Value.slice.injEq,true_and] at h3;obtain ⟨rfl,rfl⟩:=h3;rw [zac at_];by_cases ek:k'=k
   ·subst ek;rw [Array.getElem?_setIfInBounds_ne (by omega),Array.getElem?_setIfInBounds_self_of_lt (by simp;have:=Nat.mul_le_mul_right 3 q4;omega)]
   ·rw [Array.getElem?_setIfInBounds_ne (by omega),Array.getElem?_setIfInBounds_ne (by omega),Array.getElem?_setIfInBounds_ne (by omega),← zac q3];exact h.neg j k' g' m cap (by rcases h1 with h1|⟨_,h1⟩<;>omega) h2 e h4
  ·refine (World.cell?_of_block (zoz eg)).trans (h.neg j k' g' m' cap' ?_ h2 h3 h4);rcases h1 with h1|⟨rfl,h1⟩
   ·exact .inl h1
   ·rw [e] at h3;simp only [Value.slice.injEq,Option.some.injEq,Addr.mk.injEq] at h3;exact absurd h3.1.1.symm eg
theorem LA.next (h:LA lo p0 p1 n c W i k w) {a:Option Addr} {m cap:Nat} (e:c.getD i undef = .slice a m cap) (hkm:m≤k):LA lo p0 p1 n c W (i+1) 0 w :=
 ⟨h.mid,h.rows,fun j k' g m' cap' h1 h2 h3 h4=>h.neg j k' g m' cap' (by
  rcases h1 with h1|⟨_,h1⟩
  ·by_cases ej:j=i
   ·subst ej;rw [e] at h3;simp only [Value.slice.injEq] at h3;obtain ⟨_,rfl,_⟩:=h3;exact .inr ⟨rfl,by omega⟩
   ·exact .inl (by omega)
  ·omega) h2 h3 h4⟩
theorem ztm {base n1 m1:Nat} {v v':Value} {xs news:List Value} (hr:w.ownsRow base 42 3 v n1 xs) (hA:zgq w base 42 v n1 m1 (xs++news) v' w') {b:Nat} {cur:Array Value} (hv:v.ownBlock=some b) (hb:w.heap[b]?=some (.cells cur 42 (0,0))):∃ cur':Array Value,w'.heap[b]?=some (.cells cur' 42 (0,0))∧cur'.size=cur.size∧∀ x,x < n1 * 3→cur'[x]?=cur[x]?:=by
 obtain ⟨ho,hg,hd,_⟩:=hA;have hxl:xs.length=n1 * 3:=hr.1;rcases hd with ⟨p,k1,k2,cc,rfl,rfl⟩|hd
 ·rcases hr.2 with ⟨e1,_⟩|⟨g1,cap,cur1,e1,_,q1,qa,_,q2,q3⟩
  ·rw [e1] at hv;cases hv
  rcases ho.2 with ⟨e2,_⟩|⟨g2,cap2,cur2,e2,_,q4,qb,_,q5,q6⟩
  ·simp only [Value.slice.injEq] at e1 e2;obtain ⟨rfl,_⟩:=e1;obtain ⟨e2,_⟩:=e2;cases e2
  simp only [Value.slice.injEq] at e1 e2;obtain ⟨rfl,_,rfl⟩:=e1;obtain ⟨e3,_,rfl⟩:=e2;simp only [Option.some.injEq,Addr.mk.injEq] at e3;obtain ⟨rfl,_⟩:=e3;simp only [Value.ownBlock,Option.some.injEq] at hv;subst hv;rw [hb] at q1;simp only [Option.some.injEq,Obj.cells.injEq,and_true] at q1;subst q1;refine ⟨cur2,q4,by omega,fun x hx=>?_⟩;have e5:(xs++news)[x]?=xs[x]?:=List.getElem?_append_left (by omega);rw [← q6,← q3,List.getElem?_take_of_lt (by have:=Nat.mul_le_mul_right 3 (Nat.le_add_right n1 m1);omega),List.getElem?_take_of_lt hx] at e5
  simpa using e5
 ·exact ⟨cur,(hd b (yah.1 hb).1).trans hb,rfl,fun _ _=>rfl⟩
structure LR (lo p0 p1 n:Nat) (c:Array Value) (W w:World) (v:Value) (n1:Nat) (xs:List Value):Prop where
 row:w.ownsRow p0 42 3 v n1 xs
 ok:∀ g,v.ownBlock=some g→W.heap.size≤g∨Mok lo p0 p1 g 42
 le:∀ j g m cap,j < n→c.getD j undef = .slice (some ⟨g,0,none⟩) m cap→v.ownBlock=some g→m≤n1
theorem LA.app3 (h:LA lo p0 p1 n c W i k w) {n1 m1:Nat} {v v':Value} {xs news:List Value} (hr:LR lo p0 p1 n c W w v n1 xs) (hlt:∀ j g,j < n→(c.getD j undef).ownBlock=some g→g < W.heap.size) (hA:zgq w p0 42 v n1 m1 (xs++news) v' w'):LA lo p0 p1 n c W i k w'∧LR lo p0 p1 n c W w' v' (n1+m1) (xs++news):=by
 have hA':=hA;obtain ⟨ho,hg,hd,hp⟩:=hA;have hmid:=h.mid.app (sz':=3) hr.row ho hg hd hr.ok;have hs:ShpW w w':=((Mid.refl (lo:=0) (p0:=0) (p1:=w.heap.size) (W:=w)).app (sz':=3) hr.row ho hg hd fun g hgb => .inr (.inr ⟨Nat.zero_le _,(za0 hr.row hgb).2,.inr (.inr rfl)⟩)).shp;have turn:∀ j,j < n→∀ g m cap cur,c.getD j undef = .slice (some ⟨g,0,none⟩) m cap→w.heap[g]?=some (.cells cur 42 (0,0))→∃ cur':Array Value,w'.heap[g]?=some (.cells cur' 42 (0,0))∧cur'.size=cur.size∧∀ x,x < m * 3→cur'[x]?=cur[x]?:=fun j hj g m cap cur e hc=>by
  by_cases q:v.ownBlock=some g
  ·obtain ⟨cur',e1,e2,e3⟩:=ztm hr.row hA' q hc;have:=hr.le j g m cap hj e q;exact ⟨cur',e1,e2,fun x hx=>e3 x (by have:=Nat.mul_le_mul_right 3 this;omega)⟩
  ·exact ⟨cur,(hg.block g (yah.1 hc).1 fun z=>q z.symm).trans hc,rfl,fun _ _=>rfl⟩
 refine ⟨⟨hmid,fun j hj=>(h.rows j hj).turn hs fun g m cap cur e hc=>?_,fun j k' g m cap h1 h2 h3 h4=>?_⟩,ho,fun g hgb=>?_,fun j g m cap hj e hgb=>?_⟩
 ·obtain ⟨cur',e1,e2,e3⟩:=turn j hj g m cap cur e hc;exact ⟨cur',e1,e2,fun k hk => .inl (e3 _ (by omega))⟩
 ·rcases h.rows j h2 with e|⟨g',m',cap',cur,e,_,_,q3,_⟩
  ·rw [e] at h3;cases h3
  ·have e':=e;rw [h3] at e';simp only [Value.slice.injEq,Option.some.injEq,Addr.mk.injEq] at e';obtain ⟨⟨rfl,_⟩,rfl,rfl⟩:=e';obtain ⟨cur',e1,_,e3⟩:=turn j h2 g m cap cur h3 q3;rw [zac e1,e3 _ (by omega),← zac q3];exact h.neg j k' g m cap h1 h2 h3 h4
 ·rcases hp with ⟨e,_⟩|⟨g',cap,e,_,q⟩
  ·rw [e] at hgb;cases hgb
  ·rw [e] at hgb;simp only [Value.ownBlock,Option.some.injEq] at hgb;subst hgb;rcases q with q|q
   ·exact hr.ok _ q
   ·exact .inl (Nat.le_trans h.mid.size q)
 ·rcases hp with ⟨e',_⟩|⟨g',cap',e',_,q⟩
  ·rw [e'] at hgb;cases hgb
  ·rw [e'] at hgb;simp only [Value.ownBlock,Option.some.injEq] at hgb;subst hgb;rcases q with q|q
   ·have:=hr.le j _ m cap hj e q;omega
   ·have:=hlt j g' hj (by rw [e];rfl);have:=h.mid.size;omega
end
theorem info42k:(Try.prog.info? 42).map (fun i=>(i.zero,i.size,i.bytes))=some (some (.agg #[.bool false,.int .i64 0,.slice none 0 0]),3,40):=by kernel_rfl
structure L2 (lo p0 p1:Nat) (W w:World) (v:Value) (n1:Nat) (xs:List Value):Prop where
 row:w.ownsRow p0 2 1 v n1 xs
 ok:∀ g,v.ownBlock=some g→W.heap.size≤g∨Mok lo p0 p1 g 2
theorem RowB.l2 {lo p0 p1:Nat} {W w:World} {v:Value} {n:Nat} {xs:List Value} (h:RowB p0 p1 w 2 1 v n xs):L2 lo p0 p1 W w v n xs :=
 ⟨h.row,fun g hg => .inr (.inr ⟨(za0 h.row hg).1,h.lt g hg,.inl rfl⟩)⟩
theorem LA.app2' {lo p0 p1 n:Nat} {c:Array Value} {W w w':World} {i k:Nat} (h:LA lo p0 p1 n c W i k w) {n1 m1:Nat} {v v':Value} {xs ys:List Value} (hr:L2 lo p0 p1 W w v n1 xs) (hA:zlw w p0 2 v n1 m1 ys v' w'):LA lo p0 p1 n c W i k w'∧L2 lo p0 p1 W w' v' (n1+m1) ys:=by
 obtain ⟨ho,hg,hd,hp⟩:=hA;refine ⟨h.app2 (sz':=1) hr.row ho hg hd hr.ok,ho,fun g hgb=>?_⟩;rcases hp with ⟨e,_⟩|⟨g',cap,e,_,q⟩
 ·rw [e] at hgb;cases hgb
 ·rw [e] at hgb;simp only [Value.ownBlock,Option.some.injEq] at hgb;subst hgb;rcases q with q|q
  ·exact hr.ok _ q
  ·exact .inl (Nat.le_trans h.mid.size q)
theorem L2.left {lo p0 p1:Nat} {W w w':World} {v:Value} {n:Nat} {xs:List Value} (h:L2 lo p0 p1 W w v n xs) (l:LeftW w w'):L2 lo p0 p1 W w' v n xs :=
 ⟨zak h.row fun g ob hg hh=>(l.same g (za0 h.row hg).2).trans hh,h.ok⟩
theorem LR.left {lo p0 p1 n:Nat} {c:Array Value} {W w w':World} {v:Value} {n1:Nat} {xs:List Value} (h:LR lo p0 p1 n c W w v n1 xs) (l:LeftW w w'):LR lo p0 p1 n c W w' v n1 xs :=
 ⟨zak h.row fun g ob hg hh=>(l.same g (za0 h.row hg).2).trans hh,h.ok,h.le⟩
theorem zxi (w:World) (b:Bool) (x:Int) (u:Value) (hu:u.oneCell'=true):SrcN (w.alloc (.cells #[.bool b,.int .i64 x,u] 42)) (.slice (some ⟨w.heap.size,0,none⟩) 1 1) 1 [.bool b,.int .i64 x,u]:=by
 have hg:=heap_alloc_new w (.cells #[.bool b,.int .i64 x,u] 42);refine ⟨rfl,fun v hv=>?_,.inr ⟨_,_,rfl,fun j v hj=>?_⟩⟩
 ·simp only [List.mem_cons,List.not_mem_nil,or_false] at hv;rcases hv with rfl|rfl|rfl
  ·rfl
  ·rfl
  ·exact hu
 ·have:=zac hg j;rcases j with _|j
  ·simp only [yaa,Option.some.injEq] at hj;subst hj;exact this
  ·have e:(⟨w.heap.size,0,none⟩:Addr).add (j+1)=⟨w.heap.size,j+1,none⟩:=by simp [Addr.add]
   rw [e];exact this.trans (by simpa using hj)
section
variable {Z:Machine→Trace→Prop} {cs:List Frame} {W w:World} {R:List Item}
theorem LA.row {lo p0 p1 n:Nat} {c:Array Value} {W w w':World} {q:Nat} (h:LA lo p0 p1 n c W 0 0 w) (hm:Mid q q (q+1) w w') (hq:∀ cc t,w.heap[q]?=some (.cells cc t (0,0))→p0≤q∧q < p1∧(t=2∨t=3)):LA lo p0 p1 n c W 0 0 w':=by
 have same:∀ b o,w.heap[b]?=some o→b≠q→w'.heap[b]?=some o:=fun b o hb hne=>hm.keep b o hb fun c t _ hk=>by rcases hk with ⟨_,_,_⟩|⟨_,_,_⟩<;>omega
 refine h.keep ⟨Nat.le_trans h.mid.size hm.size,⟨hm.outs.1.trans h.mid.outs.1,hm.outs.2.trans h.mid.outs.2⟩,fun b o hb hn=>?_,h.mid.shp.trans hm.shp⟩ hm.shp fun b c hb=>?_
 ·have e:=h.mid.keep b o hb hn;refine hm.keep b o e fun cc t ho hk=>?_;have eb:b=q:=by rcases hk with ⟨_,_,_⟩|⟨_,_,_⟩<;>omega
  subst eb;rw [ho] at e;obtain ⟨h1,h2,h3⟩:=hq cc t e;exact hn cc t ho (.inr ⟨h1,h2,by rcases h3 with h3|h3<;>simp [h3]⟩)
 ·by_cases e:b=q
  ·subst e;have h3:=(hq c 42 hb).2.2;rcases h3 with h3|h3<;>cases h3
  ·exact (same b _ hb e).trans hb.symm
theorem LA.list {lo p0 p1 n:Nat} {c:Array Value} {W w:World} {i k:Nat} {i' k':Nat} (h:LA lo p0 p1 n c W i' k' w) (hi:i < n) {va:Option Addr} {m cap:Nat} (e:c.getD i undef = .slice va m cap) (hk:k < m):∃ (g:Nat) (cur:Array Value),va=some ⟨g,0,none⟩∧w.heap[g]?=some (.cells cur 42 (0,0))∧k * 3+2 < cur.size∧∃ (ua:Option Addr) (nl uc:Nat) (ys:List Value),w.cell? ⟨g,k * 3+2,none⟩=some (.slice ua nl uc)∧nl≤1000000000∧RowB p0 p1 w 2 1 (.slice ua nl uc) nl ys:=by
 rcases h.rows i hi with e1|⟨g,m',cap',cur,e1,q1,q2,q3,q4,_,q6,q7⟩
 ·rw [e] at e1;simp only [Value.slice.injEq] at e1;omega
 ·rw [e] at e1;simp only [Value.slice.injEq] at e1;obtain ⟨rfl,rfl,rfl⟩:=e1;obtain ⟨u,nl,ys,f1,f0,f2⟩:=q7 k hk;obtain ⟨ua,uc,rfl⟩:=zbb f2.row;have:=Nat.mul_le_mul_right 3 q4;exact ⟨g,cur,rfl,q3,by omega,ua,nl,uc,ys,(zac q3 _).trans f1,f0,f2⟩
theorem LA.lr {lo p0 p1 n:Nat} {c:Array Value} {W w:World} {i i' k':Nat} (h:LA lo p0 p1 n c W i' k' w) (hd:∀ j k g,j < n→k < n→(c.getD j undef).ownBlock=some g→(c.getD k undef).ownBlock=some g→j=k) (hi:i < n) {va:Option Addr} {m cap:Nat} (e:c.getD i undef = .slice va m cap):∃ xs,LR lo p0 p1 n c W w (.slice va m cap) m xs:=by
 rcases h.rows i hi with e1|⟨g,m',cap',cur,e1,q1,q2,q3,q4,q5,q6,q7⟩
 ·rw [e] at e1;simp only [Value.slice.injEq] at e1;obtain ⟨rfl,rfl,rfl⟩:=e1;exact ⟨[],World.ownsRow_nil _ _ _ _,fun g hg=>(by cases hg),fun j g m cap _ _ hg=>(by cases hg)⟩
 ·have e':=e;rw [e1] at e;simp only [Value.slice.injEq] at e;obtain ⟨rfl,rfl,rfl⟩:=e;have:=Nat.mul_le_mul_right 3 q4;have hcap:cap'≤maxLen:=q5.1;refine ⟨cur.toList.take (m' * 3),⟨?_,.inr ⟨g,cap',cur,rfl,q1,q3,q4,hcap,q6,rfl⟩⟩,fun g' hg'=>?_,fun j g' m2 cap2 hj e2 hg'=>?_⟩
  ·simp only [List.length_take,Array.length_toList];omega
  ·simp only [Value.ownBlock,Option.some.injEq] at hg';subst hg';exact .inr (.inr ⟨q1,q2,.inr (.inr rfl)⟩)
  ·have ej:=hd j i g' hj hi (by rw [e2];rfl) (by rw [e'];exact hg');subst ej;rw [e2] at e';simp only [Value.slice.injEq] at e';omega
theorem loop4K {z:Nat→Value} {A lo p0 p1 ar n:Nat} {c:Array Value} {v1 v2 v3:Value} (z9:z 9 = .pointer (some ⟨A,0,none⟩)) (hA:W.heap[A]?=some (.cells #[.slice (some ⟨ar,0,none⟩) n n,v1,v2,v3] 31 (0,0))) (hat:W.heap[ar]?=some (.cells c 40 (0,0))) (hcs:c.size=n) (hd:∀ j k g,j < n→k < n→(c.getD j undef).ownBlock=some g→(c.getD k undef).ownBlock=some g→j=k) (hp01:p0≤p1) (hp1:p1≤W.heap.size) (hn9:n≤1000000000) (hLA:LA lo p0 p1 n c W 0 0 w)
  (hret:∀ y w',(∀ j,j < 15→y j=z j)→LA lo p0 p1 n c W n 0 w'→RM Try.prog Z (G ((base 11).at (A6 y) (.code Y15c::R)) cs) w') :
  RM Try.prog Z (G ((base 11).at (A6 z) (.code Y14c::R)) cs) w:=by
 have hr':=yay fun (y:Nat→Value) w' (h1:∀ j,j < 15→y j=z j) h2=>hret y w' h1 h2;clear hret;obtain ⟨i2,hi2,hz2,hz21,hz22⟩:=info_parts zvi;obtain ⟨i3,hi3,hz3,hz31,hz32⟩:=info_parts info42k;have KA:Hid (∀ w,Mid lo p0 p1 W w→w.cell? ⟨A,0,none⟩=some (.slice (some ⟨ar,0,none⟩) n n)):=yay fun w hw=>by
  rw [zac (hw.kind hA (.inl (by decide))) 0];rfl
 have KR:Hid (∀ w,Mid lo p0 p1 W w→∀ i,i < n→w.cell? ⟨ar,i,none⟩=some (c.getD i undef)):=yay fun w hw i hi=>by
  rw [zac (hw.kind hat (.inl (by decide))) i];simp [show i < c.size by omega]
 have hblt:Hid (∀ w i k,LA lo p0 p1 n c W i k w→∀ j g,j < n→(c.getD j undef).ownBlock=some g→g < W.heap.size):=yay fun w i k h j g hj hg=>by
  rcases h.rows j hj with e|⟨g',m,cap,cur,e,_,q,_⟩
  ·rw [e] at hg;cases hg
  ·rw [e] at hg;simp only [Value.ownBlock,Option.some.injEq] at hg;omega
 replace hd:=yay hd;replace hcs:=yay hcs;replace hp1:=yay hp1;clear hA hat;refine zas (c:=Y14c) rm_xc rfl fun R0 hR0=>?_;rw [show cA Y14c=Code.seq _ _ from rfl]
 unfold A6;simp only [z9];refine zb9 ztq (zab zaf (by kernel_rfl)) rfl (zaa Try.func11) rfl fun wp hwp=>?_;have H0:Hid (LA lo p0 p1 n c W 0 0 wp):=yay (hLA.left (.of_sim hwp.heap hwp.outs));clear hwp hLA
 go_wp2_with fail
 go_loopw [15] (fun iv wr=>∃ i:Nat,i≤n∧iv = .int .i64 i∧Hid (LA lo p0 p1 n c W i 0 wr)) (fun iv _=>n - (intOf iv).toNat)
 case atStart=>exact ⟨0,by omega,rfl,H0⟩
 case round =>
  obtain ⟨i,hin,rfl,HI⟩:=hrel;have r0:=KA.out _ HI.out.mid;by_cases hlti:i < n
  ·have hlti':(i:Int) < (n:Int):=by omega
   have hi0:(0:Int)≤(i:Int):=by omega
   have nxi:IntKind.i64.wrap ((i:Int)+1)=((i+1:Nat):Int):=by rw [IntKind.wrap_i64];omega
   obtain ⟨va,m,cap,hV,hm9⟩:∃ va m cap,c.getD i undef = .slice va m cap∧m≤1000000000:=by
    rcases HI.out.rows i hlti with e|⟨g,m,cap,cur,e,_,_,_,_,q,_⟩
    ·exact ⟨_,_,_,e,by omega⟩
    ·exact ⟨_,_,_,e,q.2⟩
   have K3:Hid (∀ w,Mid lo p0 p1 W w→w.cell? ⟨ar,i,none⟩=some (.slice va m cap)):=yay fun w hw=>by rw [KR.out w hw i hlti,hV]
   have r1:=K3.out _ HI.out.mid;have hpW:Hid (∀ w,Mid lo p0 p1 W w→p0≤w.heap.size):=yay fun w hw=>by have:=hw.size;have:=hp1.out;omega
   replace hV:=yay hV
   go_wp2_with fail
   go_loopw [16] (fun kv wr=>∃ k:Nat,k≤m∧kv = .int .i64 k∧Hid (LA lo p0 p1 n c W i k wr)) (fun kv _=>m - (intOf kv).toNat)
   case atStart=>exact ⟨0,by omega,rfl,HI⟩
   case round =>
    obtain ⟨k,hkm,rfl,HK⟩:=hrel;have r0:=KA.out _ HK.out.mid;have r1:=K3.out _ HK.out.mid;by_cases hltk:k < m
    ·have hltk':(k:Int) < (m:Int):=by omega
     have hk0:(0:Int)≤(k:Int):=by omega
     have nxk:IntKind.i64.wrap ((k:Int)+1)=((k+1:Nat):Int):=by rw [IntKind.wrap_i64];omega
     obtain ⟨g,cur,rfl,hgc,hgs,ua,nl,uc,ys,hu,hnl,hU⟩:=HK.out.list hlti hV.out hltk;have HJ:Hid (LA lo p0 p1 n c W i k wr∧wr.cell? ⟨g,k * 3+2,none⟩=some (.slice ua nl uc)∧∃ zs,RowB p0 p1 wr 2 1 (.slice ua nl uc) nl zs):=yay ⟨HK.out,hu,ys,hU⟩;clear hgc hgs hU
     go_wp2_with fail
     go_loopw [17] (fun jv wr=>∃ j:Nat,j≤nl∧jv = .int .i64 j∧Hid (LA lo p0 p1 n c W i k wr∧wr.cell? ⟨g,k * 3+2,none⟩=some (.slice ua nl uc)∧∃ zs,RowB p0 p1 wr 2 1 (.slice ua nl uc) nl zs)) (fun jv _=>nl - (intOf jv).toNat)
     case atStart=>exact ⟨0,by omega,rfl,HJ⟩
     case round =>
      obtain ⟨j,hjn,rfl,HL⟩:=hrel;obtain ⟨hLA,hu2,zs,hZ⟩:=HL.out;have r0:=KA.out _ hLA.mid;have r1:=K3.out _ hLA.mid;clear hu;by_cases hltj:j < nl
      ·have hltj':(j:Int) < (nl:Int):=by omega
       have hj0:(0:Int)≤(j:Int):=by omega
       have nxj:IntKind.i64.wrap ((j:Int)+1)=((j+1:Nat):Int):=by rw [IntKind.wrap_i64];omega
       obtain ⟨gl,rfl,hl0,hl1,lcur,hlc,hls⟩:∃ gl,ua=some ⟨gl,0,none⟩∧p0≤gl∧gl < p1∧∃ cur:Array Value,wr.heap[gl]?=some (.cells cur 2 (0,0))∧nl≤cur.size:=by
        rcases hZ.row.2 with ⟨e,q⟩|⟨g1,cap1,cur1,e,b0,q1,q2,_,q3,_⟩
        ·omega
        ·simp only [Value.slice.injEq] at e;obtain ⟨rfl,_,rfl⟩:=e;exact ⟨g1,rfl,b0,hZ.lt g1 rfl,cur1,q1,by omega⟩
       obtain ⟨old,hold⟩:∃ v,wr.cell? ⟨gl,j,none⟩=some v:=⟨_,(zac hlc j).trans (Array.getElem?_eq_getElem (by omega))⟩;have f0:=zap hlc j;have hne:gl≠g:=fun e=>by
        obtain ⟨g',cur',e1,e2,_⟩:=hLA.list hlti hV.out hltk;simp only [Option.some.injEq,Addr.mk.injEq] at e1;rw [e,e1.1,e2] at hlc;simp at hlc
       have HN:Hid (LA lo p0 p1 n c W i k (wr.setCell ⟨gl,j,none⟩ (.int .i64 (-3)))∧(wr.setCell ⟨gl,j,none⟩ (.int .i64 (-3))).cell? ⟨g,k * 3+2,none⟩=some (.slice (some ⟨gl,0,none⟩) nl uc)∧∃ zs,RowB p0 p1 (wr.setCell ⟨gl,j,none⟩ (.int .i64 (-3))) 2 1 (.slice (some ⟨gl,0,none⟩) nl uc) nl zs) :=
        yay ⟨hLA.set2 hlc hl0 hl1 _ _,(World.cell?_of_block (Below.heap_setCell _ _ _ _ (Ne.symm hne))).trans hu2,hZ.shp (.set wr gl j _)⟩
       clear hlc hls hl0 hl1 hLA hZ HL HJ
       go_wp2_with fail
       refine ⟨⟨j+1,by omega,by rw [Int.natCast_add];rfl,HN⟩,by simp [intOf];omega⟩
      ·have hltj':¬ (j:Int) < (nl:Int):=by omega
       have HS1:=yay (znd wr (-4) 2);have HA1:Hid (LA lo p0 p1 n c W i k (wr.alloc (.cells #[.int .i64 (-4)] 2))∧L2 lo p0 p1 W (wr.alloc (.cells #[.int .i64 (-4)] 2)) (.slice ua nl uc) nl zs):=yay ⟨hLA.left (LeftW.refl.alloc _),(hZ.l2).left (LeftW.refl.alloc _)⟩;have hb1:=yay (hpW.out _ HA1.out.1.mid);clear hLA hZ HL HJ
       go_wp2_with (first
        | (at_builtin;(refine zeq rfl (.tmp 188) (.tmp 189) 22 rfl p0 2 i2 _ _ Try.underlying22 hi2 hz2 hz21 hz22 rfl (.slice ua nl uc) nl zs rfl HA1.out.2.row 1 _ HS1.out ?l2 ?b2 ?n2 ?_);(case l2=>(unfold maxLen;omega));(case b2=>omega);(case n2=>exact hb1.out);intro v' w1 ha;obtain ⟨hA2,hL2⟩:=HA1.out.1.app2' HA1.out.2 ha;obtain ⟨up,uc',rfl⟩:=zbb hL2.row;(have HS2:=yay (znd w1 (-4) 2));(have HA2:Hid (LA lo p0 p1 n c W i k (w1.alloc (.cells #[.int .i64 (-4)] 2))∧L2 lo p0 p1 W (w1.alloc (.cells #[.int .i64 (-4)] 2)) (.slice up (nl+1) uc') (nl+1) (zs++[.int .i64 (-4)])):=yay ⟨hA2.left (LeftW.refl.alloc _),hL2.left (LeftW.refl.alloc _)⟩);(have hb2:=yay (hpW.out _ HA2.out.1.mid));clear ha hA2 hL2 HA1 HS1 hb1)
        | (at_builtin;(refine zeq rfl (.tmp 191) (.tmp 192) 22 rfl p0 2 i2 _ _ Try.underlying22 hi2 hz2 hz21 hz22 rfl (.slice up (nl+1) uc') (nl+1) _ rfl HA2.out.2.row 1 _ HS2.out ?l2 ?b2 ?n2 ?_);(case l2=>(unfold maxLen;omega));(case b2=>omega);(case n2=>exact hb2.out);intro v' w2 ha;obtain ⟨hA3,hL3⟩:=HA2.out.1.app2' HA2.out.2 ha;obtain ⟨up2,uc2,rfl⟩:=zbb hL3.row;have t0:=KA.out _ hA3.mid;have t1:=K3.out _ hA3.mid;obtain ⟨g',cur',eg,hgc,hgs,_⟩:=hA3.list hlti hV.out hltk;obtain rfl:g=g':=(by simpa using eg);obtain ⟨x0,y0⟩:∃ v,w2.cell? ⟨g,k * 3,none⟩=some v:=⟨_,(zac hgc _).trans (Array.getElem?_eq_getElem (by omega))⟩;obtain ⟨x1,y1⟩:∃ v,w2.cell? ⟨g,k * 3+1,none⟩=some v:=⟨_,(zac hgc _).trans (Array.getElem?_eq_getElem (by omega))⟩;obtain ⟨x2,y2⟩:∃ v,w2.cell? ⟨g,k * 3+2,none⟩=some v:=⟨_,(zac hgc _).trans (Array.getElem?_eq_getElem (by omega))⟩;have g0:=zap hgc (k * 3);have g1:=zap hgc (k * 3+1);have g2:=zap hgc (k * 3+2);(have HP:=yay (hA3.put hd.out hlti hV.out hltk));clear ha hA3 hL3 HA2 HS2 hb2 hgc hgs eg))
       unfold zqm at HP;refine ⟨⟨k+1,by omega,by rw [Int.natCast_add];rfl,HP⟩,by simp [intOf];omega⟩
    ·have hltk':¬ (k:Int) < (m:Int):=by omega
     obtain rfl:k=m:=by omega
     obtain ⟨xs,hLR⟩:=HK.out.lr hd.out hlti hV.out;have HT:Hid (LA lo p0 p1 n c W i k wr∧∃ xs,LR lo p0 p1 n c W wr (.slice va k cap) (k+0) xs):=yay ⟨HK.out,xs,hLR⟩;clear hLR
     go_wp2_with fail
     go_loopw [19,20] (fun lv tv wr=>∃ t:Nat,t≤8∧tv = .int .i64 t∧Hid (LA lo p0 p1 n c W i k wr∧∃ xs,LR lo p0 p1 n c W wr lv (k+t) xs)) (fun _ tv _=>8 - (intOf tv).toNat)
     case atStart=>exact ⟨0,by omega,rfl,HT⟩
     case round =>
      obtain ⟨t,ht8,rfl,HL⟩:=hrel;obtain ⟨hLA,ts,hLR⟩:=HL.out;obtain ⟨lp,lc,rfl⟩:=zbb hLR.row;by_cases hltt:t < 8
      ·have hltt':(t:Int) < 8:=by omega
       have nxt:IntKind.i64.wrap ((t:Int)+1)=((t+1:Nat):Int):=by rw [IntKind.wrap_i64];omega
       have HS1:=yay (zxi wr false (-2) (.slice none 0 0) rfl);have HA1:Hid (LA lo p0 p1 n c W i k (wr.alloc (.cells #[.bool false,.int .i64 (-2),.slice none 0 0] 42))∧LR lo p0 p1 n c W (wr.alloc (.cells #[.bool false,.int .i64 (-2),.slice none 0 0] 42)) (.slice lp (k+t) lc) (k+t) ts):=yay ⟨hLA.left (LeftW.refl.alloc _),hLR.left (LeftW.refl.alloc _)⟩;have hb1:=yay (hpW.out _ HA1.out.1.mid);clear hLA hLR HL HT
       go_wp2_with (at_builtin;(refine zg6 rfl (.tmp 211) (.tmp 213) 40 rfl p0 42 i3 _ _ Try.underlying40 hi3 hz3 hz31 hz32 rfl (.slice lp (k+t) lc) (k+t) ts rfl HA1.out.2.row 1 _ HS1.out ?l2 ?b2 ?n2 ?_);(case l2=>(unfold maxLen;omega));(case b2=>omega);(case n2=>exact hb1.out);intro v' w1 ha;obtain ⟨hA2,hL2⟩:=HA1.out.1.app3 HA1.out.2 (hblt.out _ _ _ HA1.out.1) ha;(have HN:Hid (LA lo p0 p1 n c W i k w1∧∃ xs,LR lo p0 p1 n c W w1 v' (k+(t+1)) xs):=yay ⟨hA2,_,hL2⟩);clear ha hA2 hL2 HA1 HS1 hb1)
       refine ⟨⟨t+1,by omega,by rw [Int.natCast_add];rfl,HN⟩,by simp [intOf];omega⟩
      ·have hltt':¬ (t:Int) < 8:=by omega
       have HN:Hid (LA lo p0 p1 n c W (i+1) 0 wr):=yay (hLA.next hV.out (yax _))
       clear hLA hLR HL HT
       go_wp2_with fail
       refine ⟨⟨i+1,by omega,by rw [Int.natCast_add];rfl,HN⟩,by simp [intOf];omega⟩
  ·have hlti':¬ (i:Int) < (n:Int):=by omega
   obtain rfl:i=n:=by omega
   go_wp2_with fail
   refine fun w2 h2=>?_;have hF:=HI.out.left (.of_sim h2.heap h2.outs);obtain rfl:=hR0.out;rw [zhm _ rfl];refine hr'.out _ w2 (fun j hj=>?_) hF;rcases j with _|_|_|_|_|_|_|_|_|_|_|_|_|_|_|j<;>first|rfl|exact z9.symm|omega
end
section
variable {Z:Machine→Trace→Prop} {cs:List Frame} {W w:World} {R:List Item}
theorem loop5K {z:Nat→Value} {A lo p0 p1 ar n:Nat} {c:Array Value} {v1 v2 v3:Value} (z9:z 9 = .pointer (some ⟨A,0,none⟩)) (hA:W.heap[A]?=some (.cells #[.slice (some ⟨ar,0,none⟩) n n,v1,v2,v3] 31 (0,0))) (hat:W.heap[ar]?=some (.cells c 40 (0,0))) (hcs:c.size=n) (hn9:n≤1000000000) (hLA:LA lo p0 p1 n c W n 0 w)
  (hret:∀ y w',(∀ j,j < 21→j≠4→y j=z j)→LA lo p0 p1 n c W n 0 w'→RM Try.prog Z (G ((base 11).at (A6 y) (.code Y16c::R)) cs) w') :
  RM Try.prog Z (G ((base 11).at (A6 z) (.code Y15c::R)) cs) w:=by
 have hr':=yay fun (y:Nat→Value) w' (h1:∀ j,j < 21→j≠4→y j=z j) h2=>hret y w' h1 h2;clear hret;have KA:Hid (∀ w,Mid lo p0 p1 W w→w.cell? ⟨A,0,none⟩=some (.slice (some ⟨ar,0,none⟩) n n)):=yay fun w hw=>by
  rw [zac (hw.kind hA (.inl (by decide))) 0];rfl
 have KR:Hid (∀ w,Mid lo p0 p1 W w→∀ i,i < n→w.cell? ⟨ar,i,none⟩=some (c.getD i undef)):=yay fun w hw i hi=>by
  rw [zac (hw.kind hat (.inl (by decide))) i];simp [show i < c.size by omega]
 replace hcs:=yay hcs;clear hA hat;refine zas (c:=Y15c) rm_xc rfl fun R0 hR0=>?_;rw [show cA Y15c=Code.seq _ _ from rfl]
 unfold A6;simp only [z9];refine zb9 ztq (zab zaf (by kernel_rfl)) rfl (zaa Try.func11) rfl fun wp hwp=>?_;have H0:Hid (LA lo p0 p1 n c W n 0 wp):=yay (hLA.left (.of_sim hwp.heap hwp.outs));clear hwp hLA
 go_wp2_with fail
 go_loopw [21] (fun iv wr=>∃ i:Nat,i≤n∧iv = .int .i64 i∧Hid (LA lo p0 p1 n c W n 0 wr)) (fun iv _=>n - (intOf iv).toNat)
 case atStart=>exact ⟨0,by omega,rfl,H0⟩
 case round =>
  obtain ⟨i,hin,rfl,HI⟩:=hrel;have r0:=KA.out _ HI.out.mid;by_cases hlti:i < n
  ·have hlti':(i:Int) < (n:Int):=by omega
   have hi0:(0:Int)≤(i:Int):=by omega
   have nxi:IntKind.i64.wrap ((i:Int)+1)=((i+1:Nat):Int):=by rw [IntKind.wrap_i64];omega
   obtain ⟨va,m,cap,hV,hm9⟩:∃ va m cap,c.getD i undef = .slice va m cap∧m≤1000000000:=by
    rcases HI.out.rows i hlti with e|⟨g,m,cap,cur,e,_,_,_,_,q,_⟩
    ·exact ⟨_,_,_,e,by omega⟩
    ·exact ⟨_,_,_,e,q.2⟩
   have K3:Hid (∀ w,Mid lo p0 p1 W w→w.cell? ⟨ar,i,none⟩=some (.slice va m cap)):=yay fun w hw=>by rw [KR.out w hw i hlti,hV]
   have r1:=K3.out _ HI.out.mid;replace hV:=yay hV
   go_wp2_with fail
   go_loopw [22] (fun kv wr=>∃ k:Nat,k≤m∧kv = .int .i64 k∧Hid (LA lo p0 p1 n c W n 0 wr)) (fun kv _=>m - (intOf kv).toNat)
   case atStart=>exact ⟨0,by omega,rfl,HI⟩
   case round =>
    obtain ⟨k,hkm,rfl,HK⟩:=hrel;have r0:=KA.out _ HK.out.mid;have r1:=K3.out _ HK.out.mid;by_cases hltk:k < m
    ·have hltk':(k:Int) < (m:Int):=by omega
     have hk0:(0:Int)≤(k:Int):=by omega
     have nxk:IntKind.i64.wrap ((k:Int)+1)=((k+1:Nat):Int):=by rw [IntKind.wrap_i64];omega
     obtain ⟨g,cur,rfl,_⟩:=HK.out.list hlti hV.out hltk;have hneg:=HK.out.neg i k g m cap (.inl hlti) hlti hV.out hltk
     go_wp2_with fail
     refine ⟨⟨k+1,by omega,by rw [Int.natCast_add];rfl,HK⟩,by simp [intOf];omega⟩
    ·have hltk':¬ (k:Int) < (m:Int):=by omega
     go_wp2_with fail
     refine ⟨⟨i+1,by omega,by rw [Int.natCast_add];rfl,HK⟩,by simp [intOf];omega⟩
  ·have hlti':¬ (i:Int) < (n:Int):=by omega
   go_wp2_with fail
   refine fun w2 h2=>?_;have hF:=HI.out.left (.of_sim h2.heap h2.outs);obtain rfl:=hR0.out;rw [zhm _ rfl];refine hr'.out _ w2 (fun j hj hne=>?_) hF;rcases j with _|_|_|_|_|_|_|_|_|_|_|_|_|_|_|_|_|_|_|_|_|j<;>first|rfl|exact absurd rfl hne|exact z9.symm|omega
end
end Go.Proofs.Ytofacoojpgkbiaa
