/-
  Merged out of: KOver2 KOver3 KOver4 KOver5. No condition of its own.
-/
import Derived.Test.YtofacoojpgkbiaaPlaysP15
import Derived.StillTactics
set_option linter.unusedVariables false
set_option maxHeartbeats 8000000
set_option linter.unusedSimpArgs false
/-
 OVER: goroutine 0's pieces while the game goes on;its slots and memory. No condition of its own.
-/
namespace Go.Proofs.Ytofacoojpgkbiaa
open Go.Conc Go.RowKit
open Go.ConcN (upd upd_ne upd_same sumTo)
set_option maxRecDepth 100000
theorem zcd {D:Nat→Option (Nat×Nat)} {w wp:World} (h:Sim wp (poi D w)) (a:Addr):wp.cell? a=w.cell? a:=by
 have e:wp.cell? a=(poi D w).cell? a:=by unfold World.cell?;rw [h.heap]
 rw [e,poi_cell]
section
variable {M:Type} [Priv M] {Rep:M→(Nat→Owner)→World→Prop} {P:Program} {U:Tun} {k:Nat} {own:Nat→Owner} {A:Nat→Nat→Prop} {w₀:Nat→W0 M} {w w' w1 wp:World} {m:M} {co:Nat→Co M} {ov:Nat→Bool} {Z:Machine→Trace→Prop} {C:FuncId→Prop} {b:Frame} {a:Act} {κ:List Item} {cs:List Frame}
theorem Wd.piece (W:Wd Rep U k m co ov own A w₀ w) (hloc:zc2 Rep) (hp:Sim wp (poi U.D w)) (hk:∀ b,b < w.heap.size→own b ≠ .out→w'.heap[b]?=wp.heap[b]?) (hs:w.heap.size≤w'.heap.size) {d:Nat}
  (e:poi U.D w1=re w.tape d w') (hP:Pres U.D w w1):Wd Rep U k m co ov own A w₀ w1∧(∀ b,own b = .out→w1.heap[b]?=w'.heap[b]?)∧w1.heap.size=w'.heap.size:=by
 have hh:∀ b,(w1.heap[b]?).map (zcx U.D b)=w'.heap[b]?:=fun b=>by
  rw [← zb5,e];rfl
 have hsz:w1.heap.size=w'.heap.size:=by
  have:(poi U.D w1).heap.size=w'.heap.size:=by rw [e];rfl
  rwa [zap] at this
 have out:∀ b,own b = .out→w1.heap[b]?=w'.heap[b]?:=fun b ho=>by
  rw [← hh b]
  have hD:U.D b=none:=dnone fun z=>by rw [W.tun b z] at ho;cases ho
  cases w1.heap[b]? with
  | none=>rfl
  | some o=>simp only [Option.map_some,zcx,hD]
 have same:∀ b,own b ≠ .out→w1.heap[b]?=w.heap[b]?:=fun b ho=>by
  have hlt:b < w.heap.size:=by
   rcases Nat.lt_or_ge b w.heap.size with h | h
   ·
    exact h
   ·
    exact absurd (W.fresh b h) ho
  have h1:(w1.heap[b]?).map (zcx U.D b)=(w.heap[b]?).map (zcx U.D b):=by
   rw [hh b,hk b hlt ho,hp.heap,zb5]
  cases hD:U.D b with
  | none =>
   have hid:∀ o,zcx U.D b o=o:=fun o=>by unfold zcx;rw [hD]
   cases x:w1.heap[b]?<;>cases y:w.heap[b]?<;>rw [x,y] at h1<;>simp_all
  | some r =>
   obtain ⟨c,t,q1⟩:=hP.okd b r hD
   obtain ⟨c',t',q2⟩:=W.tn.okd b r hD
   rw [q1,q2] at h1 ⊢
   simp only [Option.map_some,Option.some.injEq,zcx,hD,Obj.cells.injEq] at h1
   obtain ⟨rfl,rfl,_⟩:=h1
   rfl
 refine ⟨⟨W.wf,W.kn,W.tn.of_blk fun b hb=>same b (by rw [W.tun b hb];simp),W.tun,hloc _ _ _ _ _ W.rep (zcs fun b hb=>same b hb.out),fun b hb=>W.fresh b (by omega),W.co,W.later,fun i hi ho b hA => ?_,W.pv,fun j ho b v hv=>⟨(W.tg j ho b v hv).1,(same b (by rw [(W.tg j ho b v hv).1];simp)).trans (W.tg j ho b v hv).2⟩,W.cp⟩,out,hsz⟩
 obtain ⟨q1,q2⟩:=W.mine i hi ho b hA
 exact ⟨q1,(same b (by rw [q1];simp)).trans q2⟩
theorem gm_piece (hP:Prg true P C) (hloc:zc2 Rep) (W:Wd Rep U k m co ov own A w₀ w) {c:Code} (hc:zb3 true P C c) (hk:b.kind = .normal) (hres:zbu true P b.fn) (hd:a.defers=[])
  (h:∀ wp,Sim wp (poi U.D w)→c.wp P (fun e a' w'=>e = .normal∧(w.heap.size≤w'.heap.size∧∀ b,b < w.heap.size→own b ≠ .out→w'.heap[b]?=wp.heap[b]?) ∧
   ∀ w1,Wd Rep U k m co ov own A w₀ w1→(∀ b,own b = .out→w1.heap[b]?=w'.heap[b]?)→w1.heap.size=w'.heap.size→GM Rep P U Z k co ov A w₀ (G (b.at a' κ) cs) w1) a wp) :
  GM Rep P U Z k co ov A w₀ (G (b.at a (.code c::κ)) cs) w:=by
 refine x_segA (gm_xc W.wf.g0 W.kn) hP hc hk hres hd W.tn.seats fun wp hp => ?_
 refine wp_mono (h wp hp) fun e a' w' ⟨he,⟨h1,h2⟩,h3⟩=>⟨he,fun d w1 e1 hP1 _ => ?_⟩
 obtain ⟨q1,q2,q3⟩:=W.piece hloc hp h2 h1 e1 hP1
 exact h3 w1 q1 q2 q3
theorem Wd.rbx (W:Wd Rep U k m co ov own A w₀ w) (hp:Sim wp (poi U.D w)):wp.cell? ⟨U.bx,0,none⟩=some (.pointer (some ⟨U.tu,0,none⟩)):=(zcd hp _).trans W.tn.kbx
theorem Wd.rtu (W:Wd Rep U k m co ov own A w₀ w) (hp:Sim wp (poi U.D w)):wp.cell? ⟨U.tu,0,none⟩=some (.chan (some U.back))∧wp.cell? ⟨U.tu,1,none⟩=some (.slice U.sp U.n U.cap)∧wp.cell? ⟨U.tu,2,none⟩=some (.slice U.bp U.n U.n) :=
 ⟨(zcd hp _).trans (zac W.tn.tu 0),(zcd hp _).trans (zac W.tn.tu 1),(zcd hp _).trans (zac W.tn.tu 2)⟩
theorem Wd.rsp (W:Wd Rep U k m co ov own A w₀ w) (hp:Sim wp (poi U.D w)) {i:Nat} (hi:i < U.n):U.sp=some ⟨U.sl,0,none⟩∧wp.cell? ⟨U.sl,i,none⟩=some (.pointer (some ⟨U.st i,0,none⟩)):=by
 obtain ⟨c,e,h1,h2⟩:=W.tn.sl
 exact ⟨W.wf.sp (by omega),(zcd hp _).trans ((zac h1 i).trans (h2 i hi))⟩
theorem Wd.rst (W:Wd Rep U k m co ov own A w₀ w) (hp:Sim wp (poi U.D w)) {i:Nat} (hi:i < U.n):wp.cell? ⟨U.st i,0,none⟩=some (.pointer (some ⟨U.tu,0,none⟩))∧wp.cell? ⟨U.st i,1,none⟩=some (.chan (some (U.pass i)))∧wp.cell? ⟨U.st i,2,none⟩=some (.bool (ov i)) :=
 ⟨(zcd hp _).trans (zac (W.tn.st i hi) 0),(zcd hp _).trans (zac (W.tn.st i hi) 1),(zcd hp _).trans (zac (W.tn.st i hi) 2)⟩
theorem Wd.mheap (W:Wd Rep U k m co ov own A w₀ w) (hp:Sim wp (poi U.D w)) {b:Nat} (hb:own b = .out):wp.heap[b]?=w.heap[b]? :=
 zba hp (dnone fun z=>by rw [W.tun b z] at hb;cases hb)
theorem Wd.msize (hp:Sim wp (poi U.D w)):wp.heap.size=w.heap.size:=by rw [hp.heap,zap]
theorem zbl (hP:Prg true P C) (W:Wd Rep U k m co ov own A w₀ w) {c:Code} (hc:zb3 true P C c) (hk:b.kind = .normal) (hres:zbu true P b.fn) (hd:a.defers=[])
  (h:∀ wp,Sim wp (poi U.D w)→c.wp P (fun e a' w'=>e = .normal∧w'=wp∧GM Rep P U Z k co ov A w₀ (G (b.at a' κ) cs) w) a wp) :
  GM Rep P U Z k co ov A w₀ (G (b.at a (.code c::κ)) cs) w:=by
 have X:XC P true U.K U.Still U.Inb (GM Rep P U Z k co ov A w₀):=gm_xc W.wf.g0 W.kn
 refine x_segA X hP hc hk hres hd W.tn.seats fun wp hp => ?_
 refine wp_mono (h wp hp) fun e a' w' ⟨he,h1,h2⟩=>⟨he,fun d w1 e1 hP1 _ => ?_⟩
 subst h1
 obtain ⟨τ,d',rfl⟩:=hp
 have:w1=w.at d:=poi_inj hP1.okd (show Okd U.D (w.at d) from W.tn.okd) e1
 rw [this]
 exact X.at_ _ _ _ h2
theorem zbb (W:Wd Rep U k m co ov own A w₀ w):XC P true U.K U.Still U.Inb (GM Rep P U Z k co ov A w₀):=gm_xc W.wf.g0 W.kn
end
theorem atGo_of {P:Program} {main:Bool} {b:Frame} {a:Act} {k:List Item} {cs:List Frame} {w:World} {ops:Array Oper} {i:Nat} {rest:List Nat} {o:Oper} {Child Aft:Goroutine→Prop} {d:Deferred} {f:Fn} {c:Array Value} (ho:ops[i]?=some o) (hw:Region.wanted o (yielded ops a.tmps)=true) (hk:b.kind ≠ .early)
  (hr:∀ w,(execOp a.eval o).runT P w #[]=(.ok (.spawn d) w,#[])) (hd:d.target = .fn f c) (hc:Child (born P d)) (h:Aft (G (b.at (a.put o.dst undef) (.inRegion ops rest::k)) cs)):AtGo P main Child Aft (G (b.at a (.inRegion ops (i::rest)::k)) cs) w :=
 ⟨rfl,_,_,fun dd=>by rw [stepG_spawn ho hw hk (by rw [← zar (es:=#[]),hr]) hd,listed_none (by have:=congrArg Prod.snd (hr (w.at dd));rwa [Sem.runT_eq] at this)],hc,h⟩
theorem prgT:Prg true Try.prog (·∈[171]):=prg_of zag (by kernel_rfl) (by kernel_rfl) (by kernel_rfl)
structure OvM (w0:World) (own0:Nat→Owner) (n:Nat) (M:Int) (bl:Nat) (left:Int) (ord:List Int) (own:Nat→Owner) (w:World):Prop where
 fm:w.heap[w0.heap.size]?=some (.cells #[.int .i64 M] 3 (0,0))
 fn:w.heap[w0.heap.size+2]?=some (.cells #[.int .i64 n] 3 (0,0))
 fl:w.heap[bl]?=some (.cells #[.int .i64 left] 3 (0,0))
 fo:∃ v,w.heap[w0.heap.size+1]?=some (.cells #[v] 24 (0,0))∧w.ownsRow (w0.heap.size+3) 3 1 v ord.length (ord.map (Value.int .i64))∧∀ g,v.ownBlock=some g→own g = .out∧g≠bl
 gb:w0.heap.size+3≤bl
 om:own w0.heap.size = .out∧own (w0.heap.size+1) = .out∧own (w0.heap.size+2) = .out∧own bl = .out
 low:∀ b,b < w0.heap.size→own0 b = .out→own b = .out∧w.heap[b]?=w0.heap[b]?
 sz:w0.heap.size+3≤w.heap.size
section
variable {w0 w w1:World} {own0 own own':Nat→Owner} {n bl:Nat} {M left:Int} {ord:List Int}
theorem OvM.setLeft {left':Int} (h:OvM w0 own0 n M bl left ord own w) (hs:w1.heap.size=w.heap.size) (hb:∀ b,b≠bl→own b = .out→w1.heap[b]?=w.heap[b]?) (hl:w1.heap[bl]?=some (.cells #[.int .i64 left'] 3 (0,0))):OvM w0 own0 n M bl left' ord own w1:=by
 obtain ⟨v,hv,hr,hw⟩:=h.fo
 have gb:=h.gb
 refine ⟨(hb _ (by omega) h.om.1).trans h.fm,(hb _ (by omega) h.om.2.2.1).trans h.fn,hl,⟨v,(hb _ (by omega) h.om.2.1).trans hv,?_,hw⟩,gb,h.om,fun b hlt ho => ?_,by have:=h.sz;omega⟩
 ·
  obtain ⟨r1,r2⟩:=hr
  refine ⟨r1,?_⟩
  rcases r2 with e | ⟨g,cap,cur,rfl,q1,q2,q3⟩
  ·
   exact .inl e
  ·
   exact .inr ⟨g,cap,cur,rfl,q1,(hb g (hw g rfl).2 (hw g rfl).1).trans q2,q3⟩
 ·
  obtain ⟨e1,e2⟩:=h.low b hlt ho
  exact ⟨e1,(hb b (by omega) e1).trans e2⟩
theorem OvM.keep (h:OvM w0 own0 n M bl left ord own w) (hs:w.heap.size≤w1.heap.size) (hb:∀ b,b < w.heap.size→own b = .out→own' b = .out∧w1.heap[b]?=w.heap[b]?):OvM w0 own0 n M bl left ord own' w1:=by
 have lt:∀ {b:Nat} {o:Obj},w.heap[b]?=some o→b < w.heap.size:=fun e=>(Array.getElem?_eq_some_iff.1 e).1
 obtain ⟨v,hv,hr,hw⟩:=h.fo
 refine ⟨((hb _ (lt h.fm) h.om.1).2).trans h.fm,((hb _ (lt h.fn) h.om.2.2.1).2).trans h.fn,((hb _ (lt h.fl) h.om.2.2.2).2).trans h.fl,⟨v,((hb _ (lt hv) h.om.2.1).2).trans hv,?_,fun g hg => ?_⟩,h.gb,⟨(hb _ (lt h.fm) h.om.1).1,(hb _ (lt hv) h.om.2.1).1,(hb _ (lt h.fn) h.om.2.2.1).1,(hb _ (lt h.fl) h.om.2.2.2).1⟩,fun b hlt ho => ?_,by have:=h.sz;omega⟩
 ·
  obtain ⟨r1,r2⟩:=hr
  refine ⟨r1,?_⟩
  rcases r2 with e | ⟨g,cap,cur,rfl,q1,q2,q3⟩
  ·
   exact .inl e
  ·
   exact .inr ⟨g,cap,cur,rfl,q1,((hb g (lt q2) (hw g rfl).1).2).trans q2,q3⟩
 ·
  obtain ⟨r1,r2⟩:=hr
  rcases r2 with ⟨rfl,_⟩ | ⟨g',cap,cur,rfl,q1,q2,q3⟩
  ·
   simp [Value.ownBlock] at hg
  ·
   simp [Value.ownBlock] at hg
   subst hg
   exact ⟨(hb _ (lt q2) (hw _ rfl).1).1,(hw _ rfl).2⟩
 ·
  obtain ⟨e1,e2⟩:=h.low b hlt ho
  have hlt':b < w.heap.size:=by have:=h.sz;omega
  exact ⟨(hb b hlt' e1).1,((hb b hlt' e1).2).trans e2⟩
end
end Go.Proofs.Ytofacoojpgkbiaa
/-
 OVER: the threads begin. No condition of its own.
-/
namespace Go.Proofs.Ytofacoojpgkbiaa
open Go.Conc Go.RowKit
open Go.ConcN (upd upd_ne upd_same sumTo)
set_option maxRecDepth 100000
def za5 {M:Type} (φ:Nat→Fu M) (m0:M):Nat→M×(Nat→Co M)
 | 0=>(m0,fun _ => .fin)
 | k+1=>((φ k (za5 φ m0 k).1).1,upd (za5 φ m0 k).2 k (φ k (za5 φ m0 k).1).2)
def zbe {M:Type} (co:Nat→Co M):Nat→Nat
 | 0=>0
 | k+1=>zbe co k+(if (co k).isFin then 0 else 1)
theorem leftO_le {M:Type} (co:Nat→Co M):∀ k,zbe co k≤k
 | 0=>Nat.le_refl _
 | k+1=>by have:=leftO_le co k;unfold zbe;split<;>omega
theorem leftO_upd {M:Type} (co:Nat→Co M) (c:Co M) (i:Nat):∀ k,k≤i→zbe (upd co i c) k=zbe co k
 | 0,_=>rfl
 | k+1,h=>by
  unfold zbe
  rw [leftO_upd co c i k (by omega),upd_ne _ _ (by omega)]
def nB:Nat→Code→Code
 | 0,c=>c
 | n+1,c=>cB (nB n c)
def bodyS:Code→Code:=fun c=>cA (cA (cB (cA (nB 6 c))))
def call58 (tu i:Nat) (f:Value):Deferred:={ target := .fn (.func 172) #[],args:=#[.pointer (some ⟨tu,0,none⟩),.int .i64 i,f] }
structure G44 (thr sch:Value) (N bx bl:Nat) (x:Nat→Value):Prop extends S44 thr sch N bx x where
 x11:x 11 = .pointer (some ⟨bl,0,none⟩)
section
variable {M:Type} [Priv M] {Rep:M→(Nat→Owner)→World→Prop} {U:Tun} {k n:Nat} {own own0:Nat→Owner} {A:Nat→Nat→Prop} {w₀:Nat→W0 M} {w w0:World} {m m0:M} {co:Nat→Co M} {ov:Nat→Bool} {Z:Machine→Trace→Prop} {cs:List Frame} {x:Nat→Value} {thr sch:Value} {bl:Nat} {Mo:Int} {ord:List Int} {φ:Nat→Fu M} {R:List Item}
set_option maxRecDepth 100000 in
theorem over_start (hloc:zc2 Rep) (hn:n≤64) {tb to cT:Nat} {F:Nat→Value} (hthr:0 < n→∃ nT,thr = .slice (some ⟨tb,to,none⟩) nT cT∧n≤nT) (hF:∀ i,i < n→w0.cell? ⟨tb,to+i,none⟩=some (F i)) (htb:0 < n→tb < w0.heap.size∧own0 tb = .out)
  (hφ:∀ i,i < n→zb8 i (φ i)∧∀ h o,GOF Rep Try.prog U i (φ i) (fun _=>False) ⟨h,m0,o⟩ (born Try.prog (call58 U.tu i (F i)))) (hU:U.n=n)
  (hend:∀ x own A w₀ ov w,G44 thr sch w0.heap.size U.bx bl x→Wd Rep U n (za5 φ m0 n).1 (za5 φ m0 n).2 ov own A w₀ w→OvM w0 own0 n Mo bl (zbe (za5 φ m0 n).2 n) [] own w→GM Rep Try.prog U Z n (za5 φ m0 n).2 ov A w₀ (G ((base 136).at (A44 x) R) cs) w) :
  ∀ j k x own A w₀ ov w,k+j=n→(∀ j,k≤j→(w₀ j).m=m0)→G44 thr sch w0.heap.size U.bx bl x→x 46 = .int .i64 n→x 47 = .int .i64 k→Wd Rep U k (za5 φ m0 k).1 (za5 φ m0 k).2 ov own A w₀ w→OvM w0 own0 n Mo bl (zbe (za5 φ m0 k).2 k) [] own w →
   GM Rep Try.prog U Z k (za5 φ m0 k).2 ov A w₀ (G ((base 136).at (A44 x) (.code (bodyS c44) :: .inLoop (bodyS c44) :: .inBlock 2::R)) cs) w:=by
 intro j
 induction j with
 | zero =>
  intro k x own A w₀ ov w hk hm0 hx h46 h47 W O
  obtain rfl:k=n:=by omega
  refine za4 (zbb W) rfl fun R0 hR0 => ?_
  rw [show cA (bodyS c44)=Code.region _ _ _ from rfl]
  refine zbl prgT W (zab zag (by kernel_rfl)) rfl (zaa Try.func136) rfl fun wp hp => ?_
  replace hend:=Lib.hid hend
  replace W:=Lib.hid W
  replace O:=Lib.hid O
  unfold A44
  simp only [hx.x0,hx.x1,hx.x5,hx.x6,hx.x9,hx.x10,hx.x11,h46,h47]
  go_wp2_with fail
  obtain rfl:=hR0.out
  clear hR0
  refine za4 (zbb W.out) rfl fun R0 hR0 => ?_
  rw [show cA (cB (bodyS c44))=Code.cond _ _ _ from rfl]
  refine zao (zbb W.out) (t:=false) rfl ?_
  obtain rfl:=hR0.out
  clear hR0
  refine x_exit (zbb W.out) rfl ?_
  rw [zdn _ rfl]
  exact hend.out _ _ _ _ _ _ ⟨⟨rfl,rfl,rfl,rfl,rfl,rfl⟩,rfl⟩ W.out O.out
 | succ j ih =>
  intro k x own A w₀ ov w hk hm0 hx h46 h47 W O
  replace ih:=Lib.hid ih
  refine za4 (zbb W) rfl fun R0 hR0 => ?_
  rw [show cA (bodyS c44)=Code.region _ _ _ from rfl]
  refine zbl prgT W (zab zag (by kernel_rfl)) rfl (zaa Try.func136) rfl fun wp hp => ?_
  replace hend:=Lib.hid hend
  replace W:=Lib.hid W
  replace O:=Lib.hid O
  have hlt:(k:Int) < n:=by omega
  unfold A44
  simp only [hx.x0,hx.x1,hx.x5,hx.x6,hx.x9,hx.x10,hx.x11,h46,h47]
  go_wp2_with fail
  obtain rfl:=hR0.out
  clear hR0
  refine za4 (zbb W.out) rfl fun R0 hR0 => ?_
  rw [show cA (cB (bodyS c44))=Code.cond _ _ _ from rfl]
  refine zao (zbb W.out) (t:=true) rfl ?_
  refine zbq (zbb W.out) ?_
  obtain rfl:=hR0.out
  clear hR0
  refine za4 (zbb W.out) rfl fun R0 hR0 => ?_
  rw [show cA (cB (cB (bodyS c44)))=Code.block _ _ from rfl]
  refine zb4 (zbb W.out) ?_
  refine zae (zbb W.out) fun R1 hR1 => ?_
  refine zbl prgT W.out (zab zag (by kernel_rfl)) rfl (zaa Try.func136) rfl fun wp hp => ?_
  replace hR0:=Lib.hid hR0
  go_wp2_with fail
  obtain rfl:=hR1.out
  clear hR1
  refine zae (zbb W.out) fun R1 hR1 => ?_
  obtain ⟨nT,rfl,hnT⟩:=hthr (by omega)
  refine x_draw (zbb W.out) 6 (by kernel_rfl) (by kernel_rfl) (by decide) (zaj (by kernel_rfl)) W.out.tn.seats fun wp hp => ?_
  simp only [List.take_succ_cons,List.take_zero]
  have cb:wp.cell? ⟨U.bx,0,none⟩=some (.pointer (some ⟨U.tu,0,none⟩)):=(zcd hp _).trans W.out.tn.kbx
  have ct:wp.cell? ⟨tb,to+k,none⟩=some (F k):=by
   obtain ⟨q1,q2⟩:=htb (by omega)
   refine ((zcd hp _).trans ?_).trans (hF k (by omega))
   unfold World.cell?
   rw [(O.out.low tb q1 q2).2]
  replace hp:=Lib.hid hp
  have hk0:(0:Int)≤k:=by omega
  have hkT:(k:Int) < nT:=by omega
  repeat still_step
  refine wpStill_nil ?_
  obtain rfl:=hR1.out
  clear hR1
  refine gm_hire hloc W.out (by omega) (φ:=φ k) (hφ k (by omega)).1 (atGo_of (d:=call58 U.tu k (F k)) (f := .func 172) (c:=#[]) rfl rfl (by decide) (fun w=>zay (by go_simp;rfl) (by simp [go_sem])) rfl (by have:=(hφ k (by omega)).2 (w₀ k).heap (w₀ k).own;rw [← hm0 k (Nat.le_refl _)] at this;exact this) ?_)
  refine zdx ?_ rfl fun _=>stepG_region_end
  refine zdx ?_ rfl fun _=>stepG_seq
  refine zdx ?_ rfl fun _=>stepG_region
  refine way_ld (v := .pointer (some ⟨U.tu,0,none⟩)) rfl rfl (by decide) (.inl rfl) (fun w hK => ?_) ?_
  ·
   have:=hK.bx
   rw [Sem.runT_eq]
   go_simp
  refine way_op (v := ?v1) rfl rfl (by decide) (fun w=>zay ?h1 ?i1) ?n1
  case h1=>(go_simp;rfl)
  case i1=>(simp [go_sem])
  refine way_op (v := ?v2) rfl rfl (by decide) (fun w=>zay ?h2 ?i2) ?n2
  case h2=>(go_simp;rfl)
  case i2=>(simp [go_sem])
  refine way_ld (v := .chan (some U.back)) rfl rfl (by decide) (.inr (.inl rfl)) (fun w hK => ?_) ?_
  ·
   have:=hK.tu
   rw [Sem.runT_eq]
   go_simp
  refine way_in rfl rfl (by decide) (fun w=>zay (by go_simp;rfl) (by simp [go_sem])) ?_
  intro v own' A' w1 w' W' hO hle hout
  rw [zeg _ rfl]
  have O':=O.out.keep hle hout
  change GM Rep Try.prog U Z (k+1) (za5 φ m0 (k+1)).2 _ _ _ _ _
  replace W':Wd Rep U (k+1) (za5 φ m0 (k+1)).1 (za5 φ m0 (k+1)).2 _ own' _ _ w':=W'
  have hov:=W'.co k (Nat.lt_succ_self k)
  generalize (if (φ k (za5 φ m0 k).1).2.isFin=true then upd ov k true else ov)=ov' at *
  generalize upd A k A'=A1 at *
  have hm1:∀ j,k+1≤j→(upd w₀ k w1 j).m=m0:=fun j hj=>by rw [upd_ne _ _ (by omega)];exact hm0 j (by omega)
  clear hm0
  generalize upd w₀ k w1=w₁ at *
  clear hO hle hout O W
  walk_nrm
  replace hov:=Lib.hid hov
  refine zad (zbb W') ?_
  refine gm_piece prgT hloc W' (zab zag (by kernel_rfl)) rfl (zaa Try.func136) rfl fun wp hp => ?_
  have cb:=W'.rbx hp
  obtain ⟨_,cu,_⟩:=W'.rtu hp
  obtain ⟨esp,cs1⟩:=W'.rsp hp (i:=k) (by omega)
  obtain ⟨_,_,cs2⟩:=W'.rst hp (i:=k) (by omega)
  rw [esp,hU] at cu
  have hl:=(W'.mheap hp O'.om.2.2.2).trans O'.fl
  have cl:=zac hl 0
  have fl:=zau hl 0
  simp only [List.getElem?_toArray,List.getElem?_cons_zero] at cl
  have hsz:=Wd.msize hp
  replace hl:=Lib.hid hl
  replace W':=Lib.hid W'
  replace O':=Lib.hid O'
  replace hp:=Lib.hid hp
  replace hsz:=Lib.hid hsz
  cases hb:ov' k with
  | true =>
   rw [hb] at cs2
   go_wp2_with fail
   refine ⟨Nat.le_of_eq hsz.out.symm,fun w1 W1 hb1 hs1 => ?_⟩
   have O1:OvM w0 own0 n Mo bl (zbe (za5 φ m0 (k+1)).2 (k+1)) [] own' w1:=by
    have e:zbe (za5 φ m0 (k+1)).2 (k+1)=zbe (za5 φ m0 k).2 k:=by
     have h1:((za5 φ m0 (k+1)).2 k).isFin=true:=hov.out.trans hb
     show zbe _ k+(if ((za5 φ m0 (k+1)).2 k).isFin then 0 else 1)=_
     rw [h1]
     exact leftO_upd _ _ _ _ (Nat.le_refl _)
    rw [e]
    exact O'.out.keep (Nat.le_of_eq (by rw [hs1,hsz.out])) fun b hb ho=>⟨ho,(hb1 b ho).trans (W'.out.mheap hp.out ho)⟩
   obtain rfl:=hR0.out
   clear hR0
   refine zb7 (zbb W1) ?_
   rw [show cB (cB (cB (bodyS c44)))=Code.region _ _ _ from rfl]
   refine zbl prgT W1 (zab zag (by kernel_rfl)) rfl (zaa Try.func136) rfl fun wp hp => ?_
   replace W1:=Lib.hid W1
   replace O1:=Lib.hid O1
   have q1:IntKind.i64.wrap ((k:Int)+1)=((k+1:Nat):Int):=by rw [IntKind.wrap_i64];omega
   go_wp2_with fail
   rw [zdn _ rfl]
   refine zcu (zbb W1.out) ?_
   exact ih.out (k+1) _ _ _ _ _ _ (by omega) hm1 ⟨⟨rfl,rfl,rfl,rfl,rfl,rfl⟩,rfl⟩ rfl rfl W1.out O1.out
  | false =>
   rw [hb] at cs2
   have hlk:=leftO_le (za5 φ m0 k).2 k
   have q2:IntKind.i64.wrap ((zbe (za5 φ m0 k).2 k:Int)+1)=((zbe (za5 φ m0 k).2 k+1:Nat):Int):=by rw [IntKind.wrap_i64];omega
   go_wp2_with fail
   refine ⟨⟨Nat.le_of_eq hsz.out.symm,fun b hlt ho=>Below.heap_setCell _ _ _ _ (fun z=>ho (by rw [z];exact O'.out.om.2.2.2))⟩,fun w1 W1 hb1 hs1 => ?_⟩
   have O1:OvM w0 own0 n Mo bl (zbe (za5 φ m0 (k+1)).2 (k+1)) [] own' w1:=by
    have e:zbe (za5 φ m0 (k+1)).2 (k+1)=zbe (za5 φ m0 k).2 k+1:=by
     have h1:((za5 φ m0 (k+1)).2 k).isFin=false:=hov.out.trans hb
     show zbe _ k+(if ((za5 φ m0 (k+1)).2 k).isFin then 0 else 1)=_
     rw [h1]
     exact congrArg (·+1) (leftO_upd _ _ _ _ (Nat.le_refl _))
    rw [e]
    refine O'.out.setLeft (hs1.trans hsz.out) (fun b hb ho=>((hb1 b ho).trans (Below.heap_setCell _ _ _ _ hb)).trans (W'.out.mheap hp.out ho)) ?_
    rw [hb1 bl O'.out.om.2.2.2]
    exact za1 hl.out 0 _
   obtain rfl:=hR0.out
   clear hR0
   refine zb7 (zbb W1) ?_
   rw [show cB (cB (cB (bodyS c44)))=Code.region _ _ _ from rfl]
   refine zbl prgT W1 (zab zag (by kernel_rfl)) rfl (zaa Try.func136) rfl fun wp hp => ?_
   replace W1:=Lib.hid W1
   replace O1:=Lib.hid O1
   have q1:IntKind.i64.wrap ((k:Int)+1)=((k+1:Nat):Int):=by rw [IntKind.wrap_i64];omega
   go_wp2_with fail
   rw [zdn _ rfl]
   refine zcu (zbb W1.out) ?_
   exact ih.out (k+1) _ _ _ _ _ _ (by omega) hm1 ⟨⟨rfl,rfl,rfl,rfl,rfl,rfl⟩,rfl⟩ rfl rfl W1.out O1.out
end
end Go.Proofs.Ytofacoojpgkbiaa
/-
 OVER: a thread is let go on (let,step). No condition of its own.
-/
namespace Go.Proofs.Ytofacoojpgkbiaa
open Go.Conc Go.RowKit
open Go.ConcN (upd upd_ne upd_same sumTo)
set_option maxRecDepth 100000
theorem atSendV_of {P:Program} {main:Bool} {b:Frame} {a:Act} {k:List Item} {cs:List Frame} {w:World} {ops:Array Oper} {i:Nat} {rest:List Nat} {o:Oper} {Aft:Goroutine→Prop} {c:Nat} {v z':Value} (ho:ops[i]?=some o) (hw:Region.wanted o (yielded ops a.tmps)=true) (hk:b.kind ≠ .early)
  (hr:∀ w,(execOp a.eval o).runT P w #[]=(.ok (.comm #[scase c v z'] true .send) w,#[])) (h:Aft (G (b.at (a.put o.dst undef) (.inRegion ops rest::k)) cs)):AtSendV P main c v Aft (G (b.at a (.inRegion ops (i::rest)::k)) cs) w :=
 ⟨rfl,_,z',fun d=>by rw [stepG_comm ho hw hk (by rw [← zar (es:=#[]),hr]),listed_none (by have:=congrArg Prod.snd (hr (w.at d));rwa [Sem.runT_eq] at this)],by rw [zeg _ ho];exact h⟩
section
variable {P:Program} {main:Bool} {K:World→Prop} {Still:Loc→Prop} {Inb:Nat→Option Seat} {GO:Goroutine→World→Prop} {b:Frame} {a:Act} {k:List Item} {cs:List Frame} {w:World} {ops:Array Oper} {i:Nat} {rest:List Nat} {o:Oper}
theorem zaz (X:XC P main K Still Inb GO) {f:FuncId} {fn:Func} {args:Array Operand} {ats:Array TypeId} (ho:ops[i]?=some o) (hw:Region.wanted o (yielded ops a.tmps)=true) (hk:b.kind ≠ .early)
  (hop:o.op = .call { callee := .value (.func f),args,argTypes:=ats }) (hf:P.funcs[f]?=some fn) (hname:(fn.name == "runtime.NumGoroutine")=false) (hb:fn.body.isNone=false)
  (h:GO (G (Frame.enter P f (args.map a.eval) .normal) (b.at a (.inRegion ops (i::rest)::k)::cs)) w):GO (G (b.at a (.inRegion ops (i::rest)::k)) cs) w :=
 x_call X ho hw hk (fun w=>zay (run_call_body hop hf hname hb) (events_call_body hop hf hname hb _)) h
theorem x_callV (X:XC P main K Still Inb GO) {f:FuncId} {fn:Func} {x:Operand} {fst cap:Array Value} {args:Array Operand} {ats:Array TypeId} (ho:ops[i]?=some o) (hw:Region.wanted o (yielded ops a.tmps)=true) (hk:b.kind ≠ .early)
  (hop:o.op = .call { callee := .value x,args,argTypes:=ats }) (hx:a.eval x = .func (.func f) fst cap) (hf:P.funcs[f]?=some fn) (hname:(fn.name == "runtime.NumGoroutine")=false) (hb:fn.body.isNone=false)
  (h:GO (G (Frame.enter P f (fst++args.map a.eval++cap) .normal) (b.at a (.inRegion ops (i::rest)::k)::cs)) w):GO (G (b.at a (.inRegion ops (i::rest)::k)) cs) w:=by
 have h1:¬ fn.name = "runtime.NumGoroutine" := by simpa using hname
 have h2:¬ fn.body=none:=by cases hx:fn.body<;>simp_all
 refine x_call X ho hw hk (fun w=>zay (r:=Result.ok (Next.enter f (fst++args.map a.eval++cap)) w) ?_ ?_) h
 ·
  unfold execOp
  simp [hop,resolve,Deferred.ofValue,invoke,callFunc,hf,h1,h2,hx]
 ·
  unfold execOp
  simp [hop,resolve,Deferred.ofValue,invoke,callFunc,hf,h1,h2,hx]
end
section
variable {M:Type} [Priv M] {Rep:M→(Nat→Owner)→World→Prop} {U:Tun} {n:Nat} {own own0:Nat→Owner} {A:Nat→Nat→Prop} {w₀:Nat→W0 M} {w w0:World} {m m':M} {co:Nat→Co M} {ov:Nat→Bool} {Z:Machine→Trace→Prop} {c:Frame} {cs:List Frame} {bl:Nat} {Mo:Int} {ord:List Int}
set_option maxRecDepth 100000 in
theorem gm_letcall (hloc:zc2 Rep) (W:Wd Rep U n m co ov own A w₀ w) {i:Nat} (hi:i < n) (hov:ov i=false) {v:Bool} {c':Co M} (hn:n≤64)
  (hc:(v=false∧m'=m∧c' = .fin)∨(v=true∧∃ nx mo,co i = .step nx mo∧m'=nx m∧c'=mo m))
  (h:∀ own' A' w₁ ov' w',Wd Rep U n m' (upd co i c') ov' own' A' w₁ w'→w.heap.size≤w'.heap.size→(∀ b,b < w.heap.size→own b = .out→own' b = .out∧w'.heap[b]?=w.heap[b]?)→GM Rep Try.prog U Z n (upd co i c') ov' A' w₁ (G (c.finish (.tuple #[])) cs) w') :
  GM Rep Try.prog U Z n co ov A w₀ (G (Frame.enter Try.prog 174 #[.pointer (some ⟨U.tu,0,none⟩),.int .i64 i,.bool v] .normal) (c::cs)) w:=by
 rw [enter_at _ Try.func174 rfl]
 simp only [Try.ntmps174,List.size_toArray,List.length_cons,List.length_nil,Nat.reduceAdd,Nat.reduceSub,Array.replicate_succ,
   Array.replicate_zero,List.push_toArray,List.append_toArray,List.nil_append,List.cons_append]
 have hin:i < U.n:=Nat.lt_of_lt_of_le hi W.kn
 refine zae (zbb W) fun R0 hR0 => ?_
 refine zbi (zbb W) 11 (by decide) (by decide) (zaj (by kernel_rfl)) W.tn.seats fun wp hp => ?_
 simp only [List.take_succ_cons,List.take_zero]
 obtain ⟨_,cu,_⟩:=W.rtu hp
 obtain ⟨esp,cs1⟩:=W.rsp hp hin
 obtain ⟨_,cs2,_⟩:=W.rst hp hin
 rw [esp] at cu
 have q0:(0:Int)≤i:=by omega
 have q1:(i:Int) < U.n:=by omega
 have hO:=W.tn.seats.okd
 replace h:=Lib.hid h
 replace W:=Lib.hid W
 replace hp:=Lib.hid hp
 go_wp2_with fail
 refine zaf hp.out hO ?_
 refine gm_let hloc W.out hi hov hc (atSendV_of rfl rfl (by decide) (fun w=>zay (by go_simp;rfl) (by simp [go_sem])) ?_)
 obtain rfl:=hR0.out
 clear hR0
 refine zdx ?_ rfl fun _=>stepG_region_end
 refine zdx ?_ rfl fun _=>stepG_region
 walk_nrm
 refine way_op (v := ?v1) rfl rfl (by decide) (fun w=>zay ?h1 ?i1) ?n1
 case h1=>(go_simp;rfl)
 case i1=>(simp [go_sem])
 refine way_op (v := ?v2) rfl rfl (by decide) (fun w=>zay ?h2 ?i2) ?n2
 case h2=>(go_simp;rfl)
 case i2=>(simp [go_sem])
 refine way_op (v := ?v3) rfl rfl (by decide) (fun w=>zay ?h3 ?i3) ?n3
 case h3=>(go_simp;rfl)
 case i3=>(simp [go_sem])
 refine way_ld (v := .chan (some U.back)) rfl rfl (by decide) (.inr (.inl rfl)) (fun w hK => ?_) ?_
 ·
  have:=hK.tu
  rw [Sem.runT_eq]
  go_simp
 refine way_in rfl rfl (by decide) (fun w=>zay (by go_simp;rfl) (by simp [go_sem])) ?_
 intro vv own' A' w1 w' W' hO' hle hout
 rw [zeg _ rfl]
 walk_nrm
 refine zad (zbb W') ?_
 refine x_end (zbb W') ?_
 refine za0 (zbb W') (zaa Try.func174) W'.tn.seats ⟨rfl,rfl,rfl,_,Try.func174,results_none rfl _ _ _⟩ ?_
 exact h.out _ _ _ _ _ W' hle hout
end
section
variable {w0 w w1 w2 wp:World} {own0 own:Nat→Owner} {n bl:Nat} {M left i:Int} {ord:List Int} {v v':Value}
theorem OvM.append (h:OvM w0 own0 n M bl left ord own w) (hfresh:∀ b,w.heap.size≤b→own b = .out) (hv:w.heap[w0.heap.size+1]?=some (.cells #[v] 24 (0,0)))
  (ha:zcy (wp.alloc (.cells #[.int .i64 i] 3)) (w0.heap.size+3) 3 v ord.length 1 (ord.map (Value.int .i64)++[.int .i64 i]) v' w2) (hwp:∀ b,own b = .out→wp.heap[b]?=w.heap[b]?) (hsz:wp.heap.size=w.heap.size) :
  w2.cell? ⟨w0.heap.size+1,0,none⟩=some v∧w2.frozen? ⟨w0.heap.size+1,0,none⟩=false∧(∃ g cap,v' = .slice (some ⟨g,0,none⟩) (ord.length+1) cap)∧w.heap.size≤(w2.setCell ⟨w0.heap.size+1,0,none⟩ v').heap.size ∧
  (∀ b,b < w.heap.size→own b ≠ .out→(w2.setCell ⟨w0.heap.size+1,0,none⟩ v').heap[b]?=wp.heap[b]?) ∧
  ∀ w1,(∀ b,own b = .out→w1.heap[b]?=(w2.setCell ⟨w0.heap.size+1,0,none⟩ v').heap[b]?)→w1.heap.size=(w2.setCell ⟨w0.heap.size+1,0,none⟩ v').heap.size→OvM w0 own0 n M bl left (ord++[i]) own w1:=by
 obtain ⟨vv,hvv,hr,hw⟩:=h.fo
 rw [hv] at hvv
 obtain rfl:v=vv:=by simpa using hvv
 obtain ⟨hown,hg,hsh⟩:=ha
 have hs:=hg.size
 have hsa:(wp.alloc (.cells #[.int .i64 i] 3)).heap.size=w.heap.size+1:=by simp [hsz]
 have lt:∀ {b:Nat} {o:Obj},w.heap[b]?=some o→b < w.heap.size:=fun e=>(Array.getElem?_eq_some_iff.1 e).1
 have ownT:∀ g,v.ownBlock=some g→∃ c,w.heap[g]?=some (.cells c 3 (0,0))∧w0.heap.size+3≤g:=fun g e=>by
  rcases hr.2 with ⟨rfl,_⟩ | ⟨g',cap,cur,rfl,q1,q2,_⟩
  ·
   simp [Value.ownBlock] at e
  ·
   simp [Value.ownBlock] at e
   subst e
   exact ⟨_,q2,q1⟩
 have keep:∀ b,b < w.heap.size→v.ownBlock≠some b→w2.heap[b]?=wp.heap[b]?:=fun b hb hne=>by
  rw [hg.block b (by omega) (fun q=>hne q.symm),Below.heap_alloc _ _ _ (by omega)]
 have keepO:∀ b,b < w.heap.size→own b = .out→v.ownBlock≠some b→w2.heap[b]?=w.heap[b]?:=fun b hb ho hne=>(keep b hb hne).trans (hwp b ho)
 have small:∀ b,b < w0.heap.size+3→v.ownBlock≠some b:=fun b hb e=>by have:=(ownT b e).choose_spec.2;omega
 have hlt1:=lt hv
 have h1:w2.heap[w0.heap.size+1]?=some (.cells #[v] 24 (0,0)):=(keepO _ hlt1 h.om.2.1 (small _ (by omega))).trans hv
 have set:=za1 h1 0 v'
 simp at set
 have oth:∀ b,b≠w0.heap.size+1→(w2.setCell ⟨w0.heap.size+1,0,none⟩ v').heap[b]?=w2.heap[b]?:=fun b hb=>Below.heap_setCell _ _ _ _ hb
 have hs2:(w2.setCell ⟨w0.heap.size+1,0,none⟩ v').heap.size=w2.heap.size:=by simp [World.setCell]
 obtain ⟨g,cap,rfl,hcap,hwhere⟩:∃ g cap,v' = .slice (some ⟨g,0,none⟩) (ord.length+1) cap∧ord.length+1≤cap∧(v.ownBlock=some g∨(wp.alloc (.cells #[.int .i64 i] 3)).heap.size≤g):=by
  rcases hsh with ⟨_,_,z,_⟩ | z
  ·
   cases z
  ·
   exact z
 have hgo:own g = .out∧g≠bl∧w0.heap.size+3≤g:=by
  have hbl:=lt h.fl
  rcases hwhere with e | e
  ·
   exact ⟨(hw g e).1,(hw g e).2,(ownT g e).choose_spec.2⟩
  ·
   exact ⟨hfresh g (by omega),by omega,by have:=h.sz;omega⟩
 refine ⟨by rw [zac h1 0];rfl,zau h1 0,⟨g,cap,rfl⟩,by omega,fun b hb ho => ?_,fun w1 hb1 hs1 => ?_⟩
 ·
  rw [oth b (fun e=>ho (by rw [e];exact h.om.2.1))]
  exact keep b hb (fun e=>ho (hw b e).1)
 ·
  have gbl:=h.gb
  have low:∀ b,b < w.heap.size→own b = .out→v.ownBlock≠some b→b≠w0.heap.size+1→w1.heap[b]?=w.heap[b]?:=fun b hb ho hne h1=>(hb1 b ho).trans ((oth b h1).trans (keepO b hb ho hne))
  refine ⟨(low _ (lt h.fm) h.om.1 (small _ (by omega)) (by omega)).trans h.fm,(low _ (lt h.fn) h.om.2.2.1 (small _ (by omega)) (by omega)).trans h.fn,(low _ (lt h.fl) h.om.2.2.2 (fun e=>(hw _ e).2 rfl) (by omega)).trans h.fl,⟨_,(hb1 _ h.om.2.1).trans set,?_,fun g' hg' => ?_⟩,gbl,h.om,fun b hlt ho => ?_,by have:=h.sz;omega⟩
  ·
   have e:(ord++[i]).map (Value.int .i64)=ord.map (Value.int .i64)++[.int .i64 i]:=by simp
   rw [e,show (ord++[i]).length=ord.length+1 by simp]
   have hown':=ownsRow_setCell_other (a:=⟨w0.heap.size+1,0,none⟩) hown (fun e=>by simp [Value.ownBlock] at e;omega) (.slice (some ⟨g,0,none⟩) (ord.length+1) cap)
   obtain ⟨r1,r2⟩:=hown'
   refine ⟨r1,?_⟩
   rcases r2 with z | ⟨g',cap',cur,z,q1,q2,q3⟩
   ·
    exact .inl z
   ·
    injection z with z1 z2 z3
    obtain rfl:g=g':=by simpa using z1
    subst z3
    exact .inr ⟨g,cap,cur,rfl,q1,(hb1 g hgo.1).trans q2,q3⟩
  ·
   simp [Value.ownBlock] at hg'
   subst hg'
   exact ⟨hgo.1,hgo.2.1⟩
  ·
   obtain ⟨e1,e2⟩:=h.low b hlt ho
   have hsz':=h.sz
   exact ⟨e1,(low b (by omega) e1 (small b (by omega)) (by omega)).trans e2⟩
end
end Go.Proofs.Ytofacoojpgkbiaa
/-
 OVER: a step of the schedule. No condition of its own.
-/
namespace Go.Proofs.Ytofacoojpgkbiaa
open Go.Conc Go.RowKit
open Go.ConcN (upd upd_ne upd_same sumTo)
set_option maxRecDepth 100000
structure GSt (M:Type) where
 m:M
 co:Nat→Co M
 ord:List Int
def zcq {M:Type} (n most:Nat) (s:GSt M) (i:Int):GSt M :=
 if 0≤i∧i < n∧s.ord.length≠most then
  match s.co i.toNat with
  | .fin=>s
  | .cut=>s
  | .step nx mo=>⟨nx s.m,upd s.co i.toNat (mo s.m),s.ord++[i]⟩
 else s
theorem leftO_over {M:Type} {co:Nat→Co M} {c:Co M} {i:Nat} (h:(co i).isFin=false):∀ k,i < k→zbe (upd co i c) k+1=zbe co k+(if c.isFin then 0 else 1)
 | 0,hi=>by omega
 | k+1,hi=>by
  unfold zbe
  by_cases e:i=k
  ·
   subst e
   rw [leftO_upd co c i i (Nat.le_refl _),upd_same,h]
   simp
   split<;>omega
  ·
   have:=leftO_over (c:=c) h k (by omega)
   rw [upd_ne _ _ (fun z=>e z.symm)]
   split<;>omega
theorem own_sl {w:World} {B e n:Nat} {v:Value} {xs:List Value} (h:w.ownsRow B e 1 v n xs):∃ ao c,v = .slice ao n c:=by
 rcases h.2 with ⟨rfl,rfl⟩ | ⟨g,cap,cur,rfl,_⟩
 ·
  exact ⟨_,_,rfl⟩
 ·
  exact ⟨_,_,rfl⟩
theorem src_one (w:World) (v:Value) (e:TypeId) (hv:v.oneCell'=true):SrcOf (w.alloc (.cells #[v] e)) (.slice (some ⟨w.heap.size,0,none⟩) 1 1) 1 [v]:=by
 refine ⟨rfl,fun u hu => ?_,.inr ⟨_,_,rfl,fun j u hj => ?_⟩⟩
 ·
  rw [List.mem_singleton.1 hu];exact hv
 ·
  cases j with
  | zero =>
   simp at hj
   subst hj
   have:=zac (heap_alloc_new w (.cells #[v] e)) 0
   simp only [Addr.add]
   exact this
  | succ j=>simp at hj
theorem info3:(Try.prog.info? 3).map (fun i=>(i.zero,i.size,i.bytes))=some (some (.int .i64 0),1,8):=by kernel_rfl
section
variable {M:Type} [Priv M] {Rep:M→(Nat→Owner)→World→Prop} {U:Tun} {n:Nat} {own own0:Nat→Owner} {A:Nat→Nat→Prop} {w₀:Nat→W0 M} {w w0:World} {s:GSt M} {ov:Nat→Bool} {Z:Machine→Trace→Prop} {c:Frame} {cs:List Frame} {bl mo:Nat}
set_option maxRecDepth 100000 in
theorem gm_step (hloc:zc2 Rep) (W:Wd Rep U n s.m s.co ov own A w₀ w) (O:OvM w0 own0 n mo bl (zbe s.co n) s.ord own w) (hU:U.n=n) (hn:n≤64) (hmo:mo≤1048576) (hord:s.ord.length≤mo) (hdp:∀ j,j < n→Deep (mo - s.ord.length) (s.co j)) (i:Int)
  (h:∀ own' A' w₁ ov' w',Wd Rep U n (zcq n mo s i).m (zcq n mo s i).co ov' own' A' w₁ w'→OvM w0 own0 n mo bl (zbe (zcq n mo s i).co n) (zcq n mo s i).ord own' w'→GM Rep Try.prog U Z n (zcq n mo s i).co ov' A' w₁ (G (c.finish (.tuple #[])) cs) w') :
  GM Rep Try.prog U Z n s.co ov A w₀ (G (Frame.enter Try.prog 173 #[.int .i64 i,.pointer (some ⟨w0.heap.size+2,0,none⟩),.pointer (some ⟨U.bx,0,none⟩),.pointer (some ⟨w0.heap.size+1,0,none⟩),.pointer (some ⟨w0.heap.size,0,none⟩),.pointer (some ⟨bl,0,none⟩)] .normal) (c::cs)) w:=by
 replace hdp:=Lib.hid hdp
 rw [enter_at _ Try.func173 rfl]
 simp only [Try.ntmps173,List.size_toArray,List.length_cons,List.length_nil,Nat.reduceAdd,Nat.reduceSub,Array.replicate_succ,
   Array.replicate_zero,List.push_toArray,List.append_toArray,List.nil_append,List.cons_append]
 refine zae (zbb W) fun R0 hR0 => ?_
 refine zae (zbb W) fun R1 hR1 => ?_
 refine zbl prgT W (zab zag (by kernel_rfl)) rfl (zaa Try.func173) rfl fun wp hp => ?_
 have cb:=W.rbx hp
 obtain ⟨_,cu,_⟩:=W.rtu hp
 obtain ⟨v,hv,hr,_⟩:=O.fo
 obtain ⟨vp,vc,rfl⟩:=own_sl hr
 replace hr:=Lib.hid hr
 have cn:=(zcd hp _).trans (zac O.fn 0)
 have cm:=(zcd hp _).trans (zac O.fm 0)
 have co_:=(zcd hp _).trans (zac hv 0)
 simp only [List.getElem?_toArray,List.getElem?_cons_zero] at cn cm co_
 replace h:=Lib.hid h
 by_cases hin:0≤i∧i < n
 ·
  obtain ⟨k,rfl⟩:∃ k:Nat,i=k:=⟨i.toNat,by omega⟩
  have hk:k < n:=by omega
  obtain ⟨esp,cs1⟩:=W.rsp hp (i:=k) (by omega)
  obtain ⟨_,_,cs2⟩:=W.rst hp (i:=k) (by omega)
  rw [esp,hU] at cu
  have q0:¬ (k:Int) < 0:=by omega
  have q1:¬ (n:Int)≤k:=by omega
  have hfin:=W.co k hk
  cases hov:ov k with
  | true =>
   rw [hov] at cs2 hfin
   replace W:=Lib.hid W
   replace O:=Lib.hid O
   replace hp:=Lib.hid hp
   replace hfin:=Lib.hid hfin
   go_wp2_with fail
   obtain rfl:=hR1.out
   clear hR1
   refine zao (zbb W.out) (t:=true) rfl ?_
   refine zc0 (zbb W.out) ?_
   refine za0 (zbb W.out) (zaa Try.func173) W.out.tn.seats ⟨rfl,rfl,rfl,_,Try.func173,results_none rfl _ _ _⟩ ?_
   have e:zcq n mo s (k:Int)=s:=by
    unfold zcq
    split
    ·
     rw [Int.toNat_natCast]
     cases hc:s.co k with
     | fin=>rfl
     | cut=>rfl
     | step nx mo=>rw [hc] at hfin;cases hfin.out
    ·
     rfl
   have h:=h.out
   rw [e] at h
   exact h _ _ _ _ _ W.out O.out
  | false =>
   rw [hov] at cs2 hfin
   by_cases hlen:s.ord.length=mo
   ·
    have hlen':(s.ord.length:Int)=mo:=by omega
    replace W:=Lib.hid W
    replace O:=Lib.hid O
    replace hp:=Lib.hid hp
    replace hlen:=Lib.hid hlen
    go_wp2_with fail
    obtain rfl:=hR1.out
    clear hR1
    refine zao (zbb W.out) (t:=true) rfl ?_
    refine zc0 (zbb W.out) ?_
    refine za0 (zbb W.out) (zaa Try.func173) W.out.tn.seats ⟨rfl,rfl,rfl,_,Try.func173,results_none rfl _ _ _⟩ ?_
    have e:zcq n mo s (k:Int)=s:=by
     unfold zcq
     rw [if_neg (by intro z;exact z.2.2 hlen.out)]
    have h:=h.out
    rw [e] at h
    exact h _ _ _ _ _ W.out O.out
   ·
    have hlen':¬ (s.ord.length:Int)=mo:=by omega
    have hb:((s.ord.length:Int)==(mo:Int))=false:=beq_eq_false_iff_ne.2 hlen'
    replace W:=Lib.hid W
    replace O:=Lib.hid O
    replace hp:=Lib.hid hp
    replace hv:=Lib.hid hv
    go_wp2_with fail
    obtain rfl:=hR1.out
    clear hR1
    refine zao (zbb W.out) (t:=false) rfl ?_
    refine zbq (zbb W.out) ?_
    obtain rfl:=hR0.out
    clear hR0 cb cu cn cm co_ cs1 cs2 hp q0 q1 hlen' hb
    refine zae (zbb W.out) fun R0 hR0 => ?_
    refine gm_piece prgT hloc W.out (zab zag (by kernel_rfl)) rfl (zaa Try.func173) rfl fun wp hp => ?_
    have cor:=(zcd hp _).trans (zac hv.out 0)
    simp only [List.getElem?_toArray,List.getElem?_cons_zero] at cor
    have hown:wp.ownsRow (w0.heap.size+3) 3 1 (.slice vp s.ord.length vc) s.ord.length (s.ord.map (Value.int .i64)):=by
     obtain ⟨v2,hv2,hr2,hw2⟩:=O.out.fo
     have e:=hv2.symm.trans hv.out
     obtain rfl:v2 = .slice vp s.ord.length vc:=by simpa using e
     obtain ⟨r1,r2⟩:=hr2
     refine ⟨r1,?_⟩
     rcases r2 with z | ⟨g,cap,cur,z,q1,q2,q3⟩
     ·
      exact .inl z
     ·
      exact .inr ⟨g,cap,cur,z,q1,(W.out.mheap hp (hw2 g (by rw [z];rfl)).1).trans q2,q3⟩
    have hsz:=Wd.msize hp
    have hAP:=fun v' w2 (ha:zcy (wp.alloc (.cells #[.int .i64 k] 3)) (w0.heap.size+3) 3 (.slice vp s.ord.length vc) s.ord.length 1 (s.ord.map (Value.int .i64)++[.int .i64 k]) v' w2)=>O.out.append W.out.fresh hv.out ha (fun b hb=>W.out.mheap hp hb) hsz
    have hlo:=O.out.sz
    replace hAP:=Lib.hid hAP
    replace hown:=Lib.hid (hown.alloc (.cells #[.int .i64 k] 3))
    replace hsz:=Lib.hid hsz
    replace hlo:=Lib.hid hlo
    replace hp:=Lib.hid hp
    obtain ⟨i0,hi0,hz0,hz1,hz2⟩:=info_parts info3
    have hne:=World.new_ne wp _ cor
    have hsrc:=Lib.hid (src_one wp (.int .i64 k) 3 rfl)
    go_wp2_with (at_builtin;go_must (refine zan rfl (.tmp 32) (.tmp 34) 24 rfl (w0.heap.size+3) 3 i0 _ 8 Try.underlying24 hi0 hz0 hz1 hz2 rfl (.slice vp s.ord.length vc) s.ord.length (s.ord.map (Value.int .i64)) rfl hown.out 1 [.int .i64 k] hsrc.out ?l2 ?b2 ?n2 ?_);go_must (case l2=>(unfold maxLen;omega));go_must (case b2=>omega);go_must (case n2=>(have:=hsz.out;have:=hlo.out;simp;omega));intro v' w6 ha;go_must (obtain ⟨e1,e2,⟨vg,vcc,rfl⟩,e3⟩:=hAP.out _ _ ha);have HE:=Lib.hid e3;clear e3 ha)
    obtain ⟨z1,z2,z3⟩:=HE.out
    refine ⟨⟨by simpa [World.setCell] using z1,fun b hb ho=>z2 b hb ho⟩,fun w1 W1 hb1 hs1 => ?_⟩
    have O1:=z3 w1 hb1 (hs1.trans (by simp [World.setCell]))
    clear z1 z2 z3 HE hb1 hs1 e1 e2 hAP hown hsz hlo hsrc hne cor
    obtain rfl:=hR0.out
    clear hR0
    refine zae (zbb W1) fun R0 hR0 => ?_
    refine zbi (zbb W1) 2 (by decide) (by decide) (zaj (by kernel_rfl)) W1.tn.seats fun wp2 hp2 => ?_
    simp only [List.take_succ_cons,List.take_zero]
    have cb:=W1.rbx hp2
    have hOk:=W1.tn.seats.okd
    replace hfin:=Lib.hid hfin
    replace W1:=Lib.hid W1
    replace O1:=Lib.hid O1
    replace hp2:=Lib.hid hp2
    go_wp2_with fail
    refine zaf hp2.out hOk ?_
    refine zaz (zbb W1.out) rfl rfl (by decide) rfl Try.func174 (by kernel_rfl) (by kernel_rfl) ?_
    walk_nrm
    cases hco:s.co k with
    | fin=>rw [hco] at hfin;cases hfin.out
    | cut =>
     exfalso
     have:=hdp.out k hk
     rw [hco,show mo - s.ord.length=(mo - s.ord.length - 1)+1 by omega] at this
     exact this
    | step nx mo' =>
    have est:RowKit.Hid (zcq n mo s (k:Int)=⟨nx s.m,upd s.co k (mo' s.m),s.ord++[(k:Int)]⟩):=by
     show zcq n mo s (k:Int)=_
     unfold zcq
     rw [if_pos ⟨by omega,by omega,hlen⟩,Int.toNat_natCast,hco]
    refine gm_letcall hloc W1.out hk hov hn (m':=nx s.m) (c':=mo' s.m) (.inr ⟨rfl,nx,mo',hco,rfl,rfl⟩) fun own' A' w₁ ov' w' W' hle hout => ?_
    have O':=O1.out.keep hle hout
    clear hle hout O1 W1 O W
    rw [Frame.finish_at]
    walk_nrm
    refine zad (zbb W') ?_
    obtain rfl:=hR0.out
    clear hR0
    refine zae (zbb W') fun R0 hR0 => ?_
    have hov':=W'.co k hk
    rw [upd_same] at hov'
    have hlo:=leftO_over (c:=mo' s.m) hfin.out n hk
    refine zbl prgT W' (zab zag (by kernel_rfl)) rfl (zaa Try.func173) rfl fun wp hp => ?_
    have cb:=W'.rbx hp
    obtain ⟨_,cu,_⟩:=W'.rtu hp
    obtain ⟨esp,cs1⟩:=W'.rsp hp (i:=k) (by omega)
    obtain ⟨_,_,cs2⟩:=W'.rst hp (i:=k) (by omega)
    rw [esp,hU] at cu
    have q0:(0:Int)≤k:=by omega
    have q1:(k:Int) < n:=by omega
    replace W2:=Lib.hid W'
    replace O2:=Lib.hid O'
    clear W' O'
    replace hp:=Lib.hid hp
    cases hb:ov' k with
    | false =>
     rw [hb] at cs2 hov'
     rw [hov'] at hlo
     replace hlo:zbe (upd s.co k (mo' s.m)) n=zbe s.co n:=by simpa using hlo
     replace hlo:=Lib.hid hlo
     replace hov':=Lib.hid hov'
     go_wp2_with fail
     obtain rfl:=hR0.out
     clear hR0
     refine zao (zbb W2.out) (t:=false) rfl ?_
     refine zbq (zbb W2.out) ?_
     have O2:=O2.out
     have W2:=W2.out
     rw [← hlo.out] at O2
     refine x_end (zbb W2) ?_
     refine za0 (zbb W2) (zaa Try.func173) W2.tn.seats ⟨rfl,rfl,rfl,_,Try.func173,results_none rfl _ _ _⟩ ?_
     have h:=h.out
     rw [est.out] at h
     exact h _ _ _ _ _ W2 O2
    | true =>
     rw [hb] at cs2 hov'
     rw [hov'] at hlo
     replace hlo:zbe (upd s.co k (mo' s.m)) n+1=zbe s.co n:=by simpa using hlo
     have hll:=leftO_le s.co n
     replace hov':=Lib.hid hov'
     replace hlo:=Lib.hid hlo
     go_wp2_with fail
     obtain rfl:=hR0.out
     clear hR0
     refine zao (zbb W2.out) (t:=true) rfl ?_
     clear cb cu cs1 cs2 hp
     refine gm_piece prgT hloc W2.out (zab zag (by kernel_rfl)) rfl (zaa Try.func173) rfl fun wp hp => ?_
     have hl:=(W2.out.mheap hp O2.out.om.2.2.2).trans O2.out.fl
     have cl:=zac hl 0
     have fl:=zau hl 0
     simp only [List.getElem?_toArray,List.getElem?_cons_zero] at cl
     have hsz:=Wd.msize hp
     have q2:IntKind.i64.wrap ((zbe s.co n:Int) - 1)=(zbe (upd s.co k (mo' s.m)) n:Int):=by have:=hlo.out;rw [IntKind.wrap_i64];omega
     replace hl:=Lib.hid hl
     replace hp:=Lib.hid hp
     replace hsz:=Lib.hid hsz
     go_wp2_with fail
     refine ⟨⟨Nat.le_of_eq hsz.out.symm,fun b hlt ho=>Below.heap_setCell _ _ _ _ (fun z=>ho (by rw [z];exact O2.out.om.2.2.2))⟩,fun w1 W1 hb1 hs1 => ?_⟩
     have O1:OvM w0 own0 n mo bl (zbe (upd s.co k (mo' s.m)) n) (s.ord++[(k:Int)]) own' w1:=by
      refine O2.out.setLeft (hs1.trans hsz.out) (fun b hb ho=>((hb1 b ho).trans (Below.heap_setCell _ _ _ _ hb)).trans (W2.out.mheap hp.out ho)) ?_
      rw [hb1 bl O2.out.om.2.2.2]
      exact za1 hl.out 0 _
     clear O2 W2
     have O2:=O1
     have W2:=W1
     refine x_end (zbb W2) ?_
     refine za0 (zbb W2) (zaa Try.func173) W2.tn.seats ⟨rfl,rfl,rfl,_,Try.func173,results_none rfl _ _ _⟩ ?_
     have h:=h.out
     rw [est.out] at h
     exact h _ _ _ _ _ W2 O2
 ·
  rcases Classical.em (i < 0) with q0 | q0
  ·
   replace W:=Lib.hid W
   replace O:=Lib.hid O
   replace hp:=Lib.hid hp
   go_wp2_with fail
   obtain rfl:=hR1.out
   clear hR1
   refine zao (zbb W.out) (t:=true) rfl ?_
   refine zc0 (zbb W.out) ?_
   refine za0 (zbb W.out) (zaa Try.func173) W.out.tn.seats ⟨rfl,rfl,rfl,_,Try.func173,results_none rfl _ _ _⟩ ?_
   have e:zcq n mo s i=s:=by
    unfold zcq
    rw [if_neg (by omega)]
   have h:=h.out
   rw [e] at h
   exact h _ _ _ _ _ W.out O.out
  ·
   have q1:(n:Int)≤i:=by omega
   replace W:=Lib.hid W
   replace O:=Lib.hid O
   replace hp:=Lib.hid hp
   go_wp2_with fail
   obtain rfl:=hR1.out
   clear hR1
   refine zao (zbb W.out) (t:=true) rfl ?_
   refine zc0 (zbb W.out) ?_
   refine za0 (zbb W.out) (zaa Try.func173) W.out.tn.seats ⟨rfl,rfl,rfl,_,Try.func173,results_none rfl _ _ _⟩ ?_
   have e:zcq n mo s i=s:=by
    unfold zcq
    rw [if_neg (by omega)]
   have h:=h.out
   rw [e] at h
   exact h _ _ _ _ _ W.out O.out
end
end Go.Proofs.Ytofacoojpgkbiaa
