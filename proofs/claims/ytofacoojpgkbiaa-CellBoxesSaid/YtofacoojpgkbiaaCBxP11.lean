/-
  A part of a proof. No condition of its own.
-/
import Derived.Test.YtofacoojpgkbiaaCBxP10
import Derived.StillTactics
set_option linter.unusedVariables false
set_option maxHeartbeats 8000000
set_option linter.unusedSimpArgs false
namespace Go.Proofs.Ytofacoojpgkbiaa
open Go.Conc Go.RowKit
open Go.ConcN (upd upd_ne upd_same sumTo)
set_option maxRecDepth 100000
theorem zb3 {D:Nat→Option (Nat×Nat)} {w wp:World} (h:Sim wp (poi D w)) (a:Addr):wp.cell? a=w.cell? a:=by
 have e:wp.cell? a=(poi D w).cell? a:=by unfold World.cell?;rw [h.heap]
 rw [e,zim]
section
variable {M:Type} [Priv M] {Rep:M→(Nat→Owner)→World→Prop} {P:Program} {U:Tun} {k:Nat} {own:Nat→Owner} {A:Nat→Nat→Prop} {w₀:Nat→W0 M} {w w' w1 wp:World} {m:M} {co:Nat→Co M} {ov:Nat→Bool} {Z:Machine→Trace→Prop} {C:FuncId→Prop} {b:Frame} {a:Act} {κ:List Item} {cs:List Frame}
theorem Wd.piece (W:Wd Rep U k m co ov own A w₀ w) (hloc:zcp Rep) (hp:Sim wp (poi U.D w)) (hk:∀ b,b < w.heap.size→own b ≠ .out→w'.heap[b]?=wp.heap[b]?) (hs:w.heap.size≤w'.heap.size) {d:Nat}
  (e:poi U.D w1=re w.tape d w') (hP:Pres U.D w w1):Wd Rep U k m co ov own A w₀ w1∧(∀ b,own b = .out→w1.heap[b]?=w'.heap[b]?)∧w1.heap.size=w'.heap.size:=by
 have hh:∀ b,(w1.heap[b]?).map (zc2 U.D b)=w'.heap[b]?:=fun b=>by
  rw [← zb4,e];rfl
 have hsz:w1.heap.size=w'.heap.size:=by
  have:(poi U.D w1).heap.size=w'.heap.size:=by rw [e];rfl
  rwa [za2] at this
 have out:∀ b,own b = .out→w1.heap[b]?=w'.heap[b]?:=fun b ho=>by
  rw [← hh b];have hD:U.D b=none:=dnone fun z=>by rw [W.tun b z] at ho;cases ho
  cases w1.heap[b]? with
  | none=>rfl
  | some o=>simp only [Option.map_some,zc2,hD]
 have same:∀ b,own b ≠ .out→w1.heap[b]?=w.heap[b]?:=fun b ho=>by
  have hlt:b < w.heap.size:=by
   rcases Nat.lt_or_ge b w.heap.size with h|h
   ·exact h
   ·exact absurd (W.fresh b h) ho
  have h1:(w1.heap[b]?).map (zc2 U.D b)=(w.heap[b]?).map (zc2 U.D b):=by
   rw [hh b,hk b hlt ho,hp.heap,zb4]
  cases hD:U.D b with
  | none =>
   have hid:∀ o,zc2 U.D b o=o:=fun o=>by unfold zc2;rw [hD]
   cases x:w1.heap[b]?<;>cases y:w.heap[b]?<;>rw [x,y] at h1<;>simp_all
  | some r =>
   obtain ⟨c,t,q1⟩:=hP.okd b r hD;obtain ⟨c',t',q2⟩:=W.tn.okd b r hD;rw [q1,q2] at h1 ⊢;simp only [Option.map_some,Option.some.injEq,zc2,hD,Obj.cells.injEq] at h1;obtain ⟨rfl,rfl,_⟩:=h1;rfl
 refine ⟨⟨W.wf,W.kn,W.tn.of_blk fun b hb=>same b (by rw [W.tun b hb];simp),W.tun,hloc _ _ _ _ _ W.rep (zcr fun b hb=>same b hb.out),fun b hb=>W.fresh b (by omega),W.co,W.later,fun i hi ho b hA=>?_,W.pv,fun j ho b v hv=>⟨(W.tg j ho b v hv).1,(same b (by rw [(W.tg j ho b v hv).1];simp)).trans (W.tg j ho b v hv).2⟩,W.cp⟩,out,hsz⟩;obtain ⟨q1,q2⟩:=W.mine i hi ho b hA;exact ⟨q1,(same b (by rw [q1];simp)).trans q2⟩
theorem zli (hP:Prg true P C) (hloc:zcp Rep) (W:Wd Rep U k m co ov own A w₀ w) {c:Code} (hc:zby true P C c) (hk:b.kind = .normal) (hres:zbr true P b.fn) (hd:a.defers=[])
  (h:∀ wp,Sim wp (poi U.D w)→c.wp P (fun e a' w'=>e = .normal∧(w.heap.size≤w'.heap.size∧∀ b,b < w.heap.size→own b ≠ .out→w'.heap[b]?=wp.heap[b]?) ∧
   ∀ w1,Wd Rep U k m co ov own A w₀ w1→(∀ b,own b = .out→w1.heap[b]?=w'.heap[b]?)→w1.heap.size=w'.heap.size→GM Rep P U Z k co ov A w₀ (G (b.at a' κ) cs) w1) a wp) :
  GM Rep P U Z k co ov A w₀ (G (b.at a (.code c::κ)) cs) w:=by
 refine zoz (gm_xc W.wf.g0 W.kn) hP hc hk hres hd W.tn.seats fun wp hp=>?_;refine wp_mono (h wp hp) fun e a' w' ⟨he,⟨h1,h2⟩,h3⟩=>⟨he,fun d w1 e1 hP1 _=>?_⟩;obtain ⟨q1,q2,q3⟩:=W.piece hloc hp h2 h1 e1 hP1;exact h3 w1 q1 q2 q3
theorem Wd.rbx (W:Wd Rep U k m co ov own A w₀ w) (hp:Sim wp (poi U.D w)):wp.cell? ⟨U.bx,0,none⟩=some (.pointer (some ⟨U.tu,0,none⟩)):=(zb3 hp _).trans W.tn.kbx
theorem Wd.rtu (W:Wd Rep U k m co ov own A w₀ w) (hp:Sim wp (poi U.D w)):wp.cell? ⟨U.tu,0,none⟩=some (.chan (some U.back))∧wp.cell? ⟨U.tu,1,none⟩=some (.slice U.sp U.n U.cap)∧wp.cell? ⟨U.tu,2,none⟩=some (.slice U.bp U.n U.n) :=
 ⟨(zb3 hp _).trans (zae W.tn.tu 0),(zb3 hp _).trans (zae W.tn.tu 1),(zb3 hp _).trans (zae W.tn.tu 2)⟩
theorem Wd.rsp (W:Wd Rep U k m co ov own A w₀ w) (hp:Sim wp (poi U.D w)) {i:Nat} (hi:i < U.n):U.sp=some ⟨U.sl,0,none⟩∧wp.cell? ⟨U.sl,i,none⟩=some (.pointer (some ⟨U.st i,0,none⟩)):=by
 obtain ⟨c,e,h1,h2⟩:=W.tn.sl;exact ⟨W.wf.sp (by omega),(zb3 hp _).trans ((zae h1 i).trans (h2 i hi))⟩
theorem Wd.rst (W:Wd Rep U k m co ov own A w₀ w) (hp:Sim wp (poi U.D w)) {i:Nat} (hi:i < U.n):wp.cell? ⟨U.st i,0,none⟩=some (.pointer (some ⟨U.tu,0,none⟩))∧wp.cell? ⟨U.st i,1,none⟩=some (.chan (some (U.pass i)))∧wp.cell? ⟨U.st i,2,none⟩=some (.bool (ov i)) :=
 ⟨(zb3 hp _).trans (zae (W.tn.st i hi) 0),(zb3 hp _).trans (zae (W.tn.st i hi) 1),(zb3 hp _).trans (zae (W.tn.st i hi) 2)⟩
theorem Wd.mheap (W:Wd Rep U k m co ov own A w₀ w) (hp:Sim wp (poi U.D w)) {b:Nat} (hb:own b = .out):wp.heap[b]?=w.heap[b]? :=
 zbb hp (dnone fun z=>by rw [W.tun b z] at hb;cases hb)
theorem Wd.msize (hp:Sim wp (poi U.D w)):wp.heap.size=w.heap.size:=by rw [hp.heap,za2]
theorem zbp (hP:Prg true P C) (W:Wd Rep U k m co ov own A w₀ w) {c:Code} (hc:zby true P C c) (hk:b.kind = .normal) (hres:zbr true P b.fn) (hd:a.defers=[])
  (h:∀ wp,Sim wp (poi U.D w)→c.wp P (fun e a' w'=>e = .normal∧w'=wp∧GM Rep P U Z k co ov A w₀ (G (b.at a' κ) cs) w) a wp) :
  GM Rep P U Z k co ov A w₀ (G (b.at a (.code c::κ)) cs) w:=by
 have X:XC P true U.K U.Still U.Inb (GM Rep P U Z k co ov A w₀):=gm_xc W.wf.g0 W.kn;refine zoz X hP hc hk hres hd W.tn.seats fun wp hp=>?_;refine wp_mono (h wp hp) fun e a' w' ⟨he,h1,h2⟩=>⟨he,fun d w1 e1 hP1 _=>?_⟩;subst h1;obtain ⟨τ,d',rfl⟩:=hp;have:w1=w.at d:=zf8 hP1.okd (show Okd U.D (w.at d) from W.tn.okd) e1
 rw [this];exact X.at_ _ _ _ h2
theorem zbe (W:Wd Rep U k m co ov own A w₀ w):XC P true U.K U.Still U.Inb (GM Rep P U Z k co ov A w₀):=gm_xc W.wf.g0 W.kn
end
theorem atGo_of {P:Program} {main:Bool} {b:Frame} {a:Act} {k:List Item} {cs:List Frame} {w:World} {ops:Array Oper} {i:Nat} {rest:List Nat} {o:Oper} {Child Aft:Goroutine→Prop} {d:Deferred} {f:Fn} {c:Array Value} (ho:ops[i]?=some o) (hw:Region.wanted o (yielded ops a.tmps)=true) (hk:b.kind ≠ .early)
  (hr:∀ w,(execOp a.eval o).runT P w #[]=(.ok (.spawn d) w,#[])) (hd:d.target = .fn f c) (hc:Child (born P d)) (h:Aft (G (b.at (a.put o.dst undef) (.inRegion ops rest::k)) cs)):AtGo P main Child Aft (G (b.at a (.inRegion ops (i::rest)::k)) cs) w :=
 ⟨rfl,_,_,fun dd=>by rw [stepG_spawn ho hw hk (by rw [← zar (es:=#[]),hr]) hd,listed_none (by have:=congrArg Prod.snd (hr (w.at dd));rwa [Sem.runT_eq] at this)],hc,h⟩
theorem zgg:Prg true Try.prog (·∈[171]):=zgw zah (by kernel_rfl) (by kernel_rfl) (by kernel_rfl)
structure OvM (w0:World) (own0:Nat→Owner) (n:Nat) (M:Int) (bl:Nat) (left:Int) (ord:List Int) (own:Nat→Owner) (w:World):Prop where
 fm:w.heap[w0.heap.size]?=some (.cells #[.int .i64 M] 3 (0,0))
 fn:w.heap[w0.heap.size+2]?=some (.cells #[.int .i64 n] 3 (0,0))
 fl:w.heap[bl]?=some (.cells #[.int .i64 left] 3 (0,0))
 fo:∃ v,w.heap[w0.heap.size+1]?=some (.cells #[v] 24 (0,0))∧w.ownsRow (w0.heap.size+3) 3 1 v ord.length (ord.map (Value.int .i64))∧∀ g,v.ownBlock=some g→own g = .out∧g≠bl
 gb:w0.heap.size+3≤bl
 om:own w0.heap.size = .out∧own (w0.heap.size+1) = .out∧own (w0.heap.size+2) = .out∧own bl = .out
 low:∀ b,b < w0.heap.size→own0 b = .out→own b = .out∧w.heap[b]?=w0.heap[b]?
 sz:w0.heap.size+3≤w.heap.size
section
variable {w0 w w1:World} {own0 own own':Nat→Owner} {n bl:Nat} {M left:Int} {ord:List Int}
theorem OvM.setLeft {left':Int} (h:OvM w0 own0 n M bl left ord own w) (hs:w1.heap.size=w.heap.size) (hb:∀ b,b≠bl→own b = .out→w1.heap[b]?=w.heap[b]?) (hl:w1.heap[bl]?=some (.cells #[.int .i64 left'] 3 (0,0))):OvM w0 own0 n M bl left' ord own w1:=by
 obtain ⟨v,hv,hr,hw⟩:=h.fo;have gb:=h.gb;refine ⟨(hb _ (by omega) h.om.1).trans h.fm,(hb _ (by omega) h.om.2.2.1).trans h.fn,hl,⟨v,(hb _ (by omega) h.om.2.1).trans hv,?_,hw⟩,gb,h.om,fun b hlt ho=>?_,by have:=h.sz;omega⟩
 ·obtain ⟨r1,r2⟩:=hr;refine ⟨r1,?_⟩;rcases r2 with e|⟨g,cap,cur,rfl,q1,q2,q3⟩
  ·exact .inl e
  ·exact .inr ⟨g,cap,cur,rfl,q1,(hb g (hw g rfl).2 (hw g rfl).1).trans q2,q3⟩
 ·obtain ⟨e1,e2⟩:=h.low b hlt ho;exact ⟨e1,(hb b (by omega) e1).trans e2⟩
theorem OvM.keep (h:OvM w0 own0 n M bl left ord own w) (hs:w.heap.size≤w1.heap.size) (hb:∀ b,b < w.heap.size→own b = .out→own' b = .out∧w1.heap[b]?=w.heap[b]?):OvM w0 own0 n M bl left ord own' w1:=by
 have lt:∀ {b:Nat} {o:Obj},w.heap[b]?=some o→b < w.heap.size:=fun e=>(yah.1 e).1;obtain ⟨v,hv,hr,hw⟩:=h.fo;refine ⟨((hb _ (lt h.fm) h.om.1).2).trans h.fm,((hb _ (lt h.fn) h.om.2.2.1).2).trans h.fn,((hb _ (lt h.fl) h.om.2.2.2).2).trans h.fl,⟨v,((hb _ (lt hv) h.om.2.1).2).trans hv,?_,fun g hg=>?_⟩,h.gb,⟨(hb _ (lt h.fm) h.om.1).1,(hb _ (lt hv) h.om.2.1).1,(hb _ (lt h.fn) h.om.2.2.1).1,(hb _ (lt h.fl) h.om.2.2.2).1⟩,fun b hlt ho=>?_,by have:=h.sz;omega⟩
 ·obtain ⟨r1,r2⟩:=hr;refine ⟨r1,?_⟩;rcases r2 with e|⟨g,cap,cur,rfl,q1,q2,q3⟩
  ·exact .inl e
  ·exact .inr ⟨g,cap,cur,rfl,q1,((hb g (lt q2) (hw g rfl).1).2).trans q2,q3⟩
 ·obtain ⟨r1,r2⟩:=hr;rcases r2 with ⟨rfl,_⟩|⟨g',cap,cur,rfl,q1,q2,q3⟩
  ·simp [Value.ownBlock] at hg
  ·simp [Value.ownBlock] at hg;subst hg;exact ⟨(hb _ (lt q2) (hw _ rfl).1).1,(hw _ rfl).2⟩
 ·obtain ⟨e1,e2⟩:=h.low b hlt ho;have hlt':b < w.heap.size:=by have:=h.sz;omega
  exact ⟨(hb b hlt' e1).1,((hb b hlt' e1).2).trans e2⟩
end
def zbf {M:Type} (φ:Nat→Fu M) (m0:M):Nat→M×(Nat→Co M)
 | 0=>(m0,fun _ => .fin)
 | k+1=>((φ k (zbf φ m0 k).1).1,upd (zbf φ m0 k).2 k (φ k (zbf φ m0 k).1).2)
def zbo {M:Type} (co:Nat→Co M):Nat→Nat
 | 0=>0
 | k+1=>zbo co k+(if (co k).isFin then 0 else 1)
theorem zlf {M:Type} (co:Nat→Co M):∀ k,zbo co k≤k
 | 0=>yax _
 | k+1=>by have:=zlf co k;unfold zbo;split<;>omega
theorem zg0 {M:Type} (co:Nat→Co M) (c:Co M) (i:Nat):∀ k,k≤i→zbo (upd co i c) k=zbo co k
 | 0,_=>rfl
 | k+1,h=>by
  unfold zbo;rw [zg0 co c i k (by omega),upd_ne _ _ (by omega)]
def nB:Nat→Code→Code
 | 0,c=>c
 | n+1,c=>cB (nB n c)
def zlv:Code→Code:=fun c=>cA (cA (cB (cA (nB 6 c))))
def zko (tu i:Nat) (f:Value):Deferred:={ target := .fn (.func 172) #[],args:=#[.pointer (some ⟨tu,0,none⟩),.int .i64 i,f] }
structure G44 (thr sch:Value) (N bx bl:Nat) (x:Nat→Value):Prop extends S44 thr sch N bx x where
 x11:x 11 = .pointer (some ⟨bl,0,none⟩)
section
variable {M:Type} [Priv M] {Rep:M→(Nat→Owner)→World→Prop} {U:Tun} {k n:Nat} {own own0:Nat→Owner} {A:Nat→Nat→Prop} {w₀:Nat→W0 M} {w w0:World} {m m0:M} {co:Nat→Co M} {ov:Nat→Bool} {Z:Machine→Trace→Prop} {cs:List Frame} {x:Nat→Value} {thr sch:Value} {bl:Nat} {Mo:Int} {ord:List Int} {φ:Nat→Fu M} {R:List Item}
set_option maxRecDepth 100000 in
theorem zqi (hloc:zcp Rep) (hn:n≤64) {tb to cT:Nat} {F:Nat→Value} (hthr:0 < n→∃ nT,thr = .slice (some ⟨tb,to,none⟩) nT cT∧n≤nT) (hF:∀ i,i < n→w0.cell? ⟨tb,to+i,none⟩=some (F i)) (htb:0 < n→tb < w0.heap.size∧own0 tb = .out)
  (hφ:∀ i,i < n→zbi i (φ i)∧∀ h o,GOF Rep Try.prog U i (φ i) (fun _=>False) ⟨h,m0,o⟩ (born Try.prog (zko U.tu i (F i)))) (hU:U.n=n)
  (hend:∀ x own A w₀ ov w,G44 thr sch w0.heap.size U.bx bl x→Wd Rep U n (zbf φ m0 n).1 (zbf φ m0 n).2 ov own A w₀ w→OvM w0 own0 n Mo bl (zbo (zbf φ m0 n).2 n) [] own w→GM Rep Try.prog U Z n (zbf φ m0 n).2 ov A w₀ (G ((base 136).at (A44 x) R) cs) w) :
  ∀ j k x own A w₀ ov w,k+j=n→(∀ j,k≤j→(w₀ j).m=m0)→G44 thr sch w0.heap.size U.bx bl x→x 46 = .int .i64 n→x 47 = .int .i64 k→Wd Rep U k (zbf φ m0 k).1 (zbf φ m0 k).2 ov own A w₀ w→OvM w0 own0 n Mo bl (zbo (zbf φ m0 k).2 k) [] own w →
   GM Rep Try.prog U Z k (zbf φ m0 k).2 ov A w₀ (G ((base 136).at (A44 x) (.code (zlv c44) :: .inLoop (zlv c44) :: .inBlock 2::R)) cs) w:=by
 intro j
 induction j with
 | zero =>
  intro k x own A w₀ ov w hk hm0 hx h46 h47 W O;obtain rfl:k=n:=by omega
  refine zas (zbe W) rfl fun R0 hR0=>?_;rw [show cA (zlv c44)=Code.region _ _ _ from rfl]
  refine zbp zgg W (zab zah (by kernel_rfl)) rfl (zaa Try.func136) rfl fun wp hp=>?_;replace hend:=yay hend;replace W:=yay W;replace O:=yay O;unfold A44;simp only [hx.x0,hx.x1,hx.x5,hx.x6,hx.x9,hx.x10,hx.x11,h46,h47]
  go_wp2_with fail
  obtain rfl:=hR0.out;clear hR0;refine zas (zbe W.out) rfl fun R0 hR0=>?_;rw [show cA (cB (zlv c44))=Code.cond _ _ _ from rfl]
  refine zao (zbe W.out) (t:=false) rfl ?_;obtain rfl:=hR0.out;clear hR0;refine zh2 (zbe W.out) rfl ?_;rw [zc4 _ rfl];exact hend.out _ _ _ _ _ _ ⟨⟨rfl,rfl,rfl,rfl,rfl,rfl⟩,rfl⟩ W.out O.out
 | succ j ih =>
  intro k x own A w₀ ov w hk hm0 hx h46 h47 W O;replace ih:=yay ih;refine zas (zbe W) rfl fun R0 hR0=>?_;rw [show cA (zlv c44)=Code.region _ _ _ from rfl]
  refine zbp zgg W (zab zah (by kernel_rfl)) rfl (zaa Try.func136) rfl fun wp hp=>?_;replace hend:=yay hend;replace W:=yay W;replace O:=yay O;have hlt:(k:Int) < n:=by omega
  unfold A44;simp only [hx.x0,hx.x1,hx.x5,hx.x6,hx.x9,hx.x10,hx.x11,h46,h47]
  go_wp2_with fail
  obtain rfl:=hR0.out;clear hR0;refine zas (zbe W.out) rfl fun R0 hR0=>?_;rw [show cA (cB (zlv c44))=Code.cond _ _ _ from rfl]
  refine zao (zbe W.out) (t:=true) rfl ?_;refine za7 (zbe W.out) ?_;obtain rfl:=hR0.out;clear hR0;refine zas (zbe W.out) rfl fun R0 hR0=>?_;rw [show cA (cB (cB (zlv c44)))=Code.block _ _ from rfl]
  refine zb7 (zbe W.out) ?_;refine zaf (zbe W.out) fun R1 hR1=>?_;refine zbp zgg W.out (zab zah (by kernel_rfl)) rfl (zaa Try.func136) rfl fun wp hp=>?_;replace hR0:=yay hR0
  go_wp2_with fail
  obtain rfl:=hR1.out;clear hR1;refine zaf (zbe W.out) fun R1 hR1=>?_;obtain ⟨nT,rfl,hnT⟩:=hthr (by omega);refine zo0 (zbe W.out) 6 (by kernel_rfl) (by kernel_rfl) (by decide) (zai (by kernel_rfl)) W.out.tn.seats fun wp hp=>?_;simp only [yad,yae];have cb:wp.cell? ⟨U.bx,0,none⟩=some (.pointer (some ⟨U.tu,0,none⟩)):=(zb3 hp _).trans W.out.tn.kbx;have ct:wp.cell? ⟨tb,to+k,none⟩=some (F k):=by
   obtain ⟨q1,q2⟩:=htb (by omega);refine ((zb3 hp _).trans ?_).trans (hF k (by omega));unfold World.cell?;rw [(O.out.low tb q1 q2).2]
  replace hp:=yay hp;have hk0:(0:Int)≤k:=by omega
  have hkT:(k:Int) < nT:=by omega
  repeat still_step
  refine wpStill_nil ?_;obtain rfl:=hR1.out;clear hR1;refine gm_hire hloc W.out (by omega) (φ:=φ k) (hφ k (by omega)).1 (atGo_of (d:=zko U.tu k (F k)) (f := .func 172) (c:=#[]) rfl rfl (by decide) (fun w=>za0 (by go_simp;rfl) (by simp [go_sem])) rfl (by have:=(hφ k (by omega)).2 (w₀ k).heap (w₀ k).own;rw [← hm0 k (yax _)] at this;exact this) ?_);refine zdj ?_ rfl fun _=>stepG_region_end;refine zdj ?_ rfl fun _=>stepG_seq;refine zdj ?_ rfl fun _=>stepG_region;refine zl4 (v := .pointer (some ⟨U.tu,0,none⟩)) rfl rfl (by decide) (.inl rfl) (fun w hK=>?_) ?_
  ·have:=hK.bx;rw [Sem.runT_eq]
   go_simp
  refine ze2 (v:=?v1) rfl rfl (by decide) (fun w=>za0 ?h1 ?i1) ?n1
  case h1=>(go_simp;rfl)
  case i1=>(simp [go_sem])
  refine ze2 (v:=?v2) rfl rfl (by decide) (fun w=>za0 ?h2 ?i2) ?n2
  case h2=>(go_simp;rfl)
  case i2=>(simp [go_sem])
  refine zl4 (v := .chan (some U.back)) rfl rfl (by decide) (.inr (.inl rfl)) (fun w hK=>?_) ?_
  ·have:=hK.tu;rw [Sem.runT_eq]
   go_simp
  refine zo3 rfl rfl (by decide) (fun w=>za0 (by go_simp;rfl) (by simp [go_sem])) ?_;intro v own' A' w1 w' W' hO hle hout;rw [zdw _ rfl];have O':=O.out.keep hle hout
  change GM Rep Try.prog U Z (k+1) (zbf φ m0 (k+1)).2 _ _ _ _ _
  replace W':Wd Rep U (k+1) (zbf φ m0 (k+1)).1 (zbf φ m0 (k+1)).2 _ own' _ _ w':=W';have hov:=W'.co k (Nat.lt_succ_self k);generalize (if (φ k (zbf φ m0 k).1).2.isFin=true then upd ov k true else ov)=ov' at *;generalize upd A k A'=A1 at *;have hm1:∀ j,k+1≤j→(upd w₀ k w1 j).m=m0:=fun j hj=>by rw [upd_ne _ _ (by omega)];exact hm0 j (by omega)
  clear hm0;generalize upd w₀ k w1=w₁ at *;clear hO hle hout O W;walk_nrm;replace hov:=yay hov;refine zad (zbe W') ?_;refine zli zgg hloc W' (zab zah (by kernel_rfl)) rfl (zaa Try.func136) rfl fun wp hp=>?_;have cb:=W'.rbx hp;obtain ⟨_,cu,_⟩:=W'.rtu hp;obtain ⟨esp,cs1⟩:=W'.rsp hp (i:=k) (by omega);obtain ⟨_,_,cs2⟩:=W'.rst hp (i:=k) (by omega);rw [esp,hU] at cu;have hl:=(W'.mheap hp O'.om.2.2.2).trans O'.fl;have cl:=zae hl 0;have fl:=zau hl 0;simp only [yac,yaa] at cl;have hsz:=Wd.msize hp;replace hl:=yay hl;replace W':=yay W';replace O':=yay O';replace hp:=yay hp;replace hsz:=yay hsz;cases hb:ov' k with
  | true =>
   rw [hb] at cs2
   go_wp2_with fail
   refine ⟨Nat.le_of_eq hsz.out.symm,fun w1 W1 hb1 hs1=>?_⟩;have O1:OvM w0 own0 n Mo bl (zbo (zbf φ m0 (k+1)).2 (k+1)) [] own' w1:=by
    have e:zbo (zbf φ m0 (k+1)).2 (k+1)=zbo (zbf φ m0 k).2 k:=by
     have h1:((zbf φ m0 (k+1)).2 k).isFin=true:=hov.out.trans hb;show zbo _ k+(if ((zbf φ m0 (k+1)).2 k).isFin then 0 else 1)=_;rw [h1];exact zg0 _ _ _ _ (yax _)
    rw [e];exact O'.out.keep (Nat.le_of_eq (by rw [hs1,hsz.out])) fun b hb ho=>⟨ho,(hb1 b ho).trans (W'.out.mheap hp.out ho)⟩
   obtain rfl:=hR0.out;clear hR0;refine zbh (zbe W1) ?_;rw [show cB (cB (cB (zlv c44)))=Code.region _ _ _ from rfl]
   refine zbp zgg W1 (zab zah (by kernel_rfl)) rfl (zaa Try.func136) rfl fun wp hp=>?_;replace W1:=yay W1;replace O1:=yay O1;have q1:IntKind.i64.wrap ((k:Int)+1)=((k+1:Nat):Int):=by rw [IntKind.wrap_i64];omega
   go_wp2_with fail
   rw [zc4 _ rfl];refine zcu (zbe W1.out) ?_;exact ih.out (k+1) _ _ _ _ _ _ (by omega) hm1 ⟨⟨rfl,rfl,rfl,rfl,rfl,rfl⟩,rfl⟩ rfl rfl W1.out O1.out
  | false =>
   rw [hb] at cs2;have hlk:=zlf (zbf φ m0 k).2 k;have q2:IntKind.i64.wrap ((zbo (zbf φ m0 k).2 k:Int)+1)=((zbo (zbf φ m0 k).2 k+1:Nat):Int):=by rw [IntKind.wrap_i64];omega
   go_wp2_with fail
   refine ⟨⟨Nat.le_of_eq hsz.out.symm,fun b hlt ho=>Below.heap_setCell _ _ _ _ (fun z=>ho (by rw [z];exact O'.out.om.2.2.2))⟩,fun w1 W1 hb1 hs1=>?_⟩;have O1:OvM w0 own0 n Mo bl (zbo (zbf φ m0 (k+1)).2 (k+1)) [] own' w1:=by
    have e:zbo (zbf φ m0 (k+1)).2 (k+1)=zbo (zbf φ m0 k).2 k+1:=by
     have h1:((zbf φ m0 (k+1)).2 k).isFin=false:=hov.out.trans hb;show zbo _ k+(if ((zbf φ m0 (k+1)).2 k).isFin then 0 else 1)=_;rw [h1];exact congrArg (·+1) (zg0 _ _ _ _ (yax _))
    rw [e];refine O'.out.setLeft (hs1.trans hsz.out) (fun b hb ho=>((hb1 b ho).trans (Below.heap_setCell _ _ _ _ hb)).trans (W'.out.mheap hp.out ho)) ?_;rw [hb1 bl O'.out.om.2.2.2];exact zaz hl.out 0 _
   obtain rfl:=hR0.out;clear hR0;refine zbh (zbe W1) ?_;rw [show cB (cB (cB (zlv c44)))=Code.region _ _ _ from rfl]
   refine zbp zgg W1 (zab zah (by kernel_rfl)) rfl (zaa Try.func136) rfl fun wp hp=>?_;replace W1:=yay W1;replace O1:=yay O1;have q1:IntKind.i64.wrap ((k:Int)+1)=((k+1:Nat):Int):=by rw [IntKind.wrap_i64];omega
   go_wp2_with fail
   rw [zc4 _ rfl];refine zcu (zbe W1.out) ?_;exact ih.out (k+1) _ _ _ _ _ _ (by omega) hm1 ⟨⟨rfl,rfl,rfl,rfl,rfl,rfl⟩,rfl⟩ rfl rfl W1.out O1.out
end
theorem zqw {P:Program} {main:Bool} {b:Frame} {a:Act} {k:List Item} {cs:List Frame} {w:World} {ops:Array Oper} {i:Nat} {rest:List Nat} {o:Oper} {Aft:Goroutine→Prop} {c:Nat} {v z':Value} (ho:ops[i]?=some o) (hw:Region.wanted o (yielded ops a.tmps)=true) (hk:b.kind ≠ .early)
  (hr:∀ w,(execOp a.eval o).runT P w #[]=(.ok (.comm #[scase c v z'] true .send) w,#[])) (h:Aft (G (b.at (a.put o.dst undef) (.inRegion ops rest::k)) cs)):zty P main c v Aft (G (b.at a (.inRegion ops (i::rest)::k)) cs) w :=
 ⟨rfl,_,z',fun d=>by rw [stepG_comm ho hw hk (by rw [← zar (es:=#[]),hr]),listed_none (by have:=congrArg Prod.snd (hr (w.at d));rwa [Sem.runT_eq] at this)],by rw [zdw _ ho];exact h⟩
section
variable {P:Program} {main:Bool} {K:World→Prop} {Still:Loc→Prop} {Inb:Nat→Option Seat} {GO:Goroutine→World→Prop} {b:Frame} {a:Act} {k:List Item} {cs:List Frame} {w:World} {ops:Array Oper} {i:Nat} {rest:List Nat} {o:Oper}
theorem zal (X:XC P main K Still Inb GO) {f:FuncId} {fn:Func} {args:Array Operand} {ats:Array TypeId} (ho:ops[i]?=some o) (hw:Region.wanted o (yielded ops a.tmps)=true) (hk:b.kind ≠ .early)
  (hop:o.op = .call { callee := .value (.func f),args,argTypes:=ats }) (hf:P.funcs[f]?=some fn) (hname:(fn.name == "runtime.NumGoroutine")=false) (hb:fn.body.isNone=false)
  (h:GO (G (Frame.enter P f (args.map a.eval) .normal) (b.at a (.inRegion ops (i::rest)::k)::cs)) w):GO (G (b.at a (.inRegion ops (i::rest)::k)) cs) w :=
 zq8 X ho hw hk (fun w=>za0 (run_call_body hop hf hname hb) (events_call_body hop hf hname hb _)) h
theorem zkt (X:XC P main K Still Inb GO) {f:FuncId} {fn:Func} {x:Operand} {fst cap:Array Value} {args:Array Operand} {ats:Array TypeId} (ho:ops[i]?=some o) (hw:Region.wanted o (yielded ops a.tmps)=true) (hk:b.kind ≠ .early)
  (hop:o.op = .call { callee := .value x,args,argTypes:=ats }) (hx:a.eval x = .func (.func f) fst cap) (hf:P.funcs[f]?=some fn) (hname:(fn.name == "runtime.NumGoroutine")=false) (hb:fn.body.isNone=false)
  (h:GO (G (Frame.enter P f (fst++args.map a.eval++cap) .normal) (b.at a (.inRegion ops (i::rest)::k)::cs)) w):GO (G (b.at a (.inRegion ops (i::rest)::k)) cs) w:=by
 have h1:¬ fn.name = "runtime.NumGoroutine" := by simpa using hname
 have h2:¬ fn.body=none:=by cases hx:fn.body<;>simp_all
 refine zq8 X ho hw hk (fun w=>za0 (r:=Result.ok (Next.enter f (fst++args.map a.eval++cap)) w) ?_ ?_) h
 ·unfold execOp;simp [hop,resolve,Deferred.ofValue,invoke,callFunc,hf,h1,h2,hx]
 ·unfold execOp;simp [hop,resolve,Deferred.ofValue,invoke,callFunc,hf,h1,h2,hx]
end
section
variable {M:Type} [Priv M] {Rep:M→(Nat→Owner)→World→Prop} {U:Tun} {n:Nat} {own own0:Nat→Owner} {A:Nat→Nat→Prop} {w₀:Nat→W0 M} {w w0:World} {m m':M} {co:Nat→Co M} {ov:Nat→Bool} {Z:Machine→Trace→Prop} {c:Frame} {cs:List Frame} {bl:Nat} {Mo:Int} {ord:List Int}
set_option maxRecDepth 100000 in
theorem zkj (hloc:zcp Rep) (W:Wd Rep U n m co ov own A w₀ w) {i:Nat} (hi:i < n) (hov:ov i=false) {v:Bool} {c':Co M} (hn:n≤64)
  (hc:(v=false∧m'=m∧c' = .fin)∨(v=true∧∃ nx mo,co i = .step nx mo∧m'=nx m∧c'=mo m))
  (h:∀ own' A' w₁ ov' w',Wd Rep U n m' (upd co i c') ov' own' A' w₁ w'→w.heap.size≤w'.heap.size→(∀ b,b < w.heap.size→own b = .out→own' b = .out∧w'.heap[b]?=w.heap[b]?)→GM Rep Try.prog U Z n (upd co i c') ov' A' w₁ (G (c.finish (.tuple #[])) cs) w') :
  GM Rep Try.prog U Z n co ov A w₀ (G (Frame.enter Try.prog 174 #[.pointer (some ⟨U.tu,0,none⟩),.int .i64 i,.bool v] .normal) (c::cs)) w:=by
 rw [enter_at _ Try.func174 rfl];simp only [Try.ntmps174,yan,yau,yav,Nat.reduceAdd,Nat.reduceSub,yao,
   yap,yaq,yar,yas,yat]
 have hin:i < U.n:=Nat.lt_of_lt_of_le hi W.kn;refine zaf (zbe W) fun R0 hR0=>?_;refine zbc (zbe W) 11 (by decide) (by decide) (zai (by kernel_rfl)) W.tn.seats fun wp hp=>?_;simp only [yad,yae];obtain ⟨_,cu,_⟩:=W.rtu hp;obtain ⟨esp,cs1⟩:=W.rsp hp hin;obtain ⟨_,cs2,_⟩:=W.rst hp hin;rw [esp] at cu;have q0:(0:Int)≤i:=by omega
 have q1:(i:Int) < U.n:=by omega
 have hO:=W.tn.seats.okd;replace h:=yay h;replace W:=yay W;replace hp:=yay hp
 go_wp2_with fail
 refine zag hp.out hO ?_;refine gm_let hloc W.out hi hov hc (zqw rfl rfl (by decide) (fun w=>za0 (by go_simp;rfl) (by simp [go_sem])) ?_);obtain rfl:=hR0.out;clear hR0;refine zdj ?_ rfl fun _=>stepG_region_end;refine zdj ?_ rfl fun _=>stepG_region;walk_nrm;refine ze2 (v:=?v1) rfl rfl (by decide) (fun w=>za0 ?h1 ?i1) ?n1
 case h1=>(go_simp;rfl)
 case i1=>(simp [go_sem])
 refine ze2 (v:=?v2) rfl rfl (by decide) (fun w=>za0 ?h2 ?i2) ?n2
 case h2=>(go_simp;rfl)
 case i2=>(simp [go_sem])
 refine ze2 (v:=?v3) rfl rfl (by decide) (fun w=>za0 ?h3 ?i3) ?n3
 case h3=>(go_simp;rfl)
 case i3=>(simp [go_sem])
 refine zl4 (v := .chan (some U.back)) rfl rfl (by decide) (.inr (.inl rfl)) (fun w hK=>?_) ?_
 ·have:=hK.tu;rw [Sem.runT_eq]
  go_simp
 refine zo3 rfl rfl (by decide) (fun w=>za0 (by go_simp;rfl) (by simp [go_sem])) ?_;intro vv own' A' w1 w' W' hO' hle hout;rw [zdw _ rfl];walk_nrm;refine zad (zbe W') ?_;refine zhf (zbe W') ?_;refine zav (zbe W') (zaa Try.func174) W'.tn.seats ⟨rfl,rfl,rfl,_,Try.func174,results_none rfl _ _ _⟩ ?_;exact h.out _ _ _ _ _ W' hle hout
end
section
variable {w0 w w1 w2 wp:World} {own0 own:Nat→Owner} {n bl:Nat} {M left i:Int} {ord:List Int} {v v':Value}
theorem OvM.append (h:OvM w0 own0 n M bl left ord own w) (hfresh:∀ b,w.heap.size≤b→own b = .out) (hv:w.heap[w0.heap.size+1]?=some (.cells #[v] 24 (0,0)))
  (ha:zdp (wp.alloc (.cells #[.int .i64 i] 3)) (w0.heap.size+3) 3 v ord.length 1 (ord.map (Value.int .i64)++[.int .i64 i]) v' w2) (hwp:∀ b,own b = .out→wp.heap[b]?=w.heap[b]?) (hsz:wp.heap.size=w.heap.size) :
  w2.cell? ⟨w0.heap.size+1,0,none⟩=some v∧w2.frozen? ⟨w0.heap.size+1,0,none⟩=false∧(∃ g cap,v' = .slice (some ⟨g,0,none⟩) (ord.length+1) cap)∧w.heap.size≤(w2.setCell ⟨w0.heap.size+1,0,none⟩ v').heap.size ∧
  (∀ b,b < w.heap.size→own b ≠ .out→(w2.setCell ⟨w0.heap.size+1,0,none⟩ v').heap[b]?=wp.heap[b]?) ∧
  ∀ w1,(∀ b,own b = .out→w1.heap[b]?=(w2.setCell ⟨w0.heap.size+1,0,none⟩ v').heap[b]?)→w1.heap.size=(w2.setCell ⟨w0.heap.size+1,0,none⟩ v').heap.size→OvM w0 own0 n M bl left (ord++[i]) own w1:=by
 obtain ⟨vv,hvv,hr,hw⟩:=h.fo;rw [hv] at hvv;obtain rfl:v=vv:=by simpa using hvv
 obtain ⟨hown,hg,hsh⟩:=ha;have hs:=hg.size;have hsa:(wp.alloc (.cells #[.int .i64 i] 3)).heap.size=w.heap.size+1:=by simp [hsz]
 have lt:∀ {b:Nat} {o:Obj},w.heap[b]?=some o→b < w.heap.size:=fun e=>(yah.1 e).1;have zq0:∀ g,v.ownBlock=some g→∃ c,w.heap[g]?=some (.cells c 3 (0,0))∧w0.heap.size+3≤g:=fun g e=>by
  rcases hr.2 with ⟨rfl,_⟩|⟨g',cap,cur,rfl,q1,q2,_⟩
  ·simp [Value.ownBlock] at e
  ·simp [Value.ownBlock] at e;subst e;exact ⟨_,q2,q1⟩
 have keep:∀ b,b < w.heap.size→v.ownBlock≠some b→w2.heap[b]?=wp.heap[b]?:=fun b hb hne=>by
  rw [hg.block b (by omega) (fun q=>hne q.symm),Below.heap_alloc _ _ _ (by omega)]
 have keepO:∀ b,b < w.heap.size→own b = .out→v.ownBlock≠some b→w2.heap[b]?=w.heap[b]?:=fun b hb ho hne=>(keep b hb hne).trans (hwp b ho);have small:∀ b,b < w0.heap.size+3→v.ownBlock≠some b:=fun b hb e=>by have:=(zq0 b e).choose_spec.2;omega
 have hlt1:=lt hv;have h1:w2.heap[w0.heap.size+1]?=some (.cells #[v] 24 (0,0)):=(keepO _ hlt1 h.om.2.1 (small _ (by omega))).trans hv;have set:=zaz h1 0 v';simp at set;have oth:∀ b,b≠w0.heap.size+1→(w2.setCell ⟨w0.heap.size+1,0,none⟩ v').heap[b]?=w2.heap[b]?:=fun b hb=>Below.heap_setCell _ _ _ _ hb;have hs2:(w2.setCell ⟨w0.heap.size+1,0,none⟩ v').heap.size=w2.heap.size:=by simp [World.setCell]
 obtain ⟨g,cap,rfl,hcap,hwhere⟩:∃ g cap,v' = .slice (some ⟨g,0,none⟩) (ord.length+1) cap∧ord.length+1≤cap∧(v.ownBlock=some g∨(wp.alloc (.cells #[.int .i64 i] 3)).heap.size≤g):=by
  rcases hsh with ⟨_,_,z,_⟩|z
  ·cases z
  ·exact z
 have hgo:own g = .out∧g≠bl∧w0.heap.size+3≤g:=by
  have hbl:=lt h.fl;rcases hwhere with e|e
  ·exact ⟨(hw g e).1,(hw g e).2,(zq0 g e).choose_spec.2⟩
  ·exact ⟨hfresh g (by omega),by omega,by have:=h.sz;omega⟩
 refine ⟨by rw [zae h1 0];rfl,zau h1 0,⟨g,cap,rfl⟩,by omega,fun b hb ho=>?_,fun w1 hb1 hs1=>?_⟩
 ·rw [oth b (fun e=>ho (by rw [e];exact h.om.2.1))];exact keep b hb (fun e=>ho (hw b e).1)
 ·have gbl:=h.gb;have low:∀ b,b < w.heap.size→own b = .out→v.ownBlock≠some b→b≠w0.heap.size+1→w1.heap[b]?=w.heap[b]?:=fun b hb ho hne h1=>(hb1 b ho).trans ((oth b h1).trans (keepO b hb ho hne));refine ⟨(low _ (lt h.fm) h.om.1 (small _ (by omega)) (by omega)).trans h.fm,(low _ (lt h.fn) h.om.2.2.1 (small _ (by omega)) (by omega)).trans h.fn,(low _ (lt h.fl) h.om.2.2.2 (fun e=>(hw _ e).2 rfl) (by omega)).trans h.fl,⟨_,(hb1 _ h.om.2.1).trans set,?_,fun g' hg'=>?_⟩,gbl,h.om,fun b hlt ho=>?_,by have:=h.sz;omega⟩
  ·have e:(ord++[i]).map (Value.int .i64)=ord.map (Value.int .i64)++[.int .i64 i]:=by simp
   rw [e,show (ord++[i]).length=ord.length+1 by simp];have hown':=ownsRow_setCell_other (a:=⟨w0.heap.size+1,0,none⟩) hown (fun e=>by simp [Value.ownBlock] at e;omega) (.slice (some ⟨g,0,none⟩) (ord.length+1) cap);obtain ⟨r1,r2⟩:=hown';refine ⟨r1,?_⟩;rcases r2 with z|⟨g',cap',cur,z,q1,q2,q3⟩
   ·exact .inl z
   ·injection z with z1 z2 z3;obtain rfl:g=g':=by simpa using z1
    subst z3;exact .inr ⟨g,cap,cur,rfl,q1,(hb1 g hgo.1).trans q2,q3⟩
  ·simp [Value.ownBlock] at hg';subst hg';exact ⟨hgo.1,hgo.2.1⟩
  ·obtain ⟨e1,e2⟩:=h.low b hlt ho;have hsz':=h.sz;exact ⟨e1,(low b (by omega) e1 (small b (by omega)) (by omega)).trans e2⟩
end
structure GSt (M:Type) where
 m:M
 co:Nat→Co M
 ord:List Int
def zco {M:Type} (n most:Nat) (s:GSt M) (i:Int):GSt M :=
 if 0≤i∧i < n∧s.ord.length≠most then
  match s.co i.toNat with
  | .fin=>s
  | .cut=>s
  | .step nx mo=>⟨nx s.m,upd s.co i.toNat (mo s.m),s.ord++[i]⟩
 else s
theorem zkh {M:Type} {co:Nat→Co M} {c:Co M} {i:Nat} (h:(co i).isFin=false):∀ k,i < k→zbo (upd co i c) k+1=zbo co k+(if c.isFin then 0 else 1)
 | 0,hi=>by omega
 | k+1,hi=>by
  unfold zbo;by_cases e:i=k
  ·subst e;rw [zg0 co c i i (yax _),upd_same,h];simp;split<;>omega
  ·have:=zkh (c:=c) h k (by omega);rw [upd_ne _ _ (fun z=>e z.symm)];split<;>omega
theorem zmt {w:World} {B e n:Nat} {v:Value} {xs:List Value} (h:w.ownsRow B e 1 v n xs):∃ ao c,v = .slice ao n c:=by
 rcases h.2 with ⟨rfl,rfl⟩|⟨g,cap,cur,rfl,_⟩
 ·exact ⟨_,_,rfl⟩
 ·exact ⟨_,_,rfl⟩
theorem src_one (w:World) (v:Value) (e:TypeId) (hv:v.oneCell'=true):zng (w.alloc (.cells #[v] e)) (.slice (some ⟨w.heap.size,0,none⟩) 1 1) 1 [v]:=by
 refine ⟨rfl,fun u hu=>?_,.inr ⟨_,_,rfl,fun j u hj=>?_⟩⟩
 ·rw [yaj.1 hu];exact hv
 ·cases j with
  | zero =>
   simp at hj;subst hj;have:=zae (heap_alloc_new w (.cells #[v] e)) 0;simp only [Addr.add];exact this
  | succ j=>simp at hj
theorem info3:(Try.prog.info? 3).map (fun i=>(i.zero,i.size,i.bytes))=some (some (.int .i64 0),1,8):=by kernel_rfl
section
variable {M:Type} [Priv M] {Rep:M→(Nat→Owner)→World→Prop} {U:Tun} {n:Nat} {own own0:Nat→Owner} {A:Nat→Nat→Prop} {w₀:Nat→W0 M} {w w0:World} {s:GSt M} {ov:Nat→Bool} {Z:Machine→Trace→Prop} {c:Frame} {cs:List Frame} {bl mo:Nat}
set_option maxRecDepth 100000 in
theorem zsv (hloc:zcp Rep) (W:Wd Rep U n s.m s.co ov own A w₀ w) (O:OvM w0 own0 n mo bl (zbo s.co n) s.ord own w) (hU:U.n=n) (hn:n≤64) (hmo:mo≤1048576) (hord:s.ord.length≤mo) (hdp:∀ j,j < n→Deep (mo - s.ord.length) (s.co j)) (i:Int)
  (h:∀ own' A' w₁ ov' w',Wd Rep U n (zco n mo s i).m (zco n mo s i).co ov' own' A' w₁ w'→OvM w0 own0 n mo bl (zbo (zco n mo s i).co n) (zco n mo s i).ord own' w'→GM Rep Try.prog U Z n (zco n mo s i).co ov' A' w₁ (G (c.finish (.tuple #[])) cs) w') :
  GM Rep Try.prog U Z n s.co ov A w₀ (G (Frame.enter Try.prog 173 #[.int .i64 i,.pointer (some ⟨w0.heap.size+2,0,none⟩),.pointer (some ⟨U.bx,0,none⟩),.pointer (some ⟨w0.heap.size+1,0,none⟩),.pointer (some ⟨w0.heap.size,0,none⟩),.pointer (some ⟨bl,0,none⟩)] .normal) (c::cs)) w:=by
 replace hdp:=yay hdp;rw [enter_at _ Try.func173 rfl];simp only [Try.ntmps173,yan,yau,yav,Nat.reduceAdd,Nat.reduceSub,yao,
   yap,yaq,yar,yas,yat]
 refine zaf (zbe W) fun R0 hR0=>?_;refine zaf (zbe W) fun R1 hR1=>?_;refine zbp zgg W (zab zah (by kernel_rfl)) rfl (zaa Try.func173) rfl fun wp hp=>?_;have cb:=W.rbx hp;obtain ⟨_,cu,_⟩:=W.rtu hp;obtain ⟨v,hv,hr,_⟩:=O.fo;obtain ⟨vp,vc,rfl⟩:=zmt hr;replace hr:=yay hr;have cn:=(zb3 hp _).trans (zae O.fn 0);have cm:=(zb3 hp _).trans (zae O.fm 0);have co_:=(zb3 hp _).trans (zae hv 0);simp only [yac,yaa] at cn cm co_;replace h:=yay h;by_cases hin:0≤i∧i < n
 ·obtain ⟨k,rfl⟩:∃ k:Nat,i=k:=⟨i.toNat,by omega⟩;have hk:k < n:=by omega
  obtain ⟨esp,cs1⟩:=W.rsp hp (i:=k) (by omega);obtain ⟨_,_,cs2⟩:=W.rst hp (i:=k) (by omega);rw [esp,hU] at cu;have q0:¬ (k:Int) < 0:=by omega
  have q1:¬ (n:Int)≤k:=by omega
  have hfin:=W.co k hk;cases hov:ov k with
  | true =>
   rw [hov] at cs2 hfin;replace W:=yay W;replace O:=yay O;replace hp:=yay hp;replace hfin:=yay hfin
   go_wp2_with fail
   obtain rfl:=hR1.out;clear hR1;refine zao (zbe W.out) (t:=true) rfl ?_;refine zb5 (zbe W.out) ?_;refine zav (zbe W.out) (zaa Try.func173) W.out.tn.seats ⟨rfl,rfl,rfl,_,Try.func173,results_none rfl _ _ _⟩ ?_;have e:zco n mo s (k:Int)=s:=by
    unfold zco;split
    ·rw [Int.toNat_natCast];cases hc:s.co k with
     | fin=>rfl
     | cut=>rfl
     | step nx mo=>rw [hc] at hfin;cases hfin.out
    ·rfl
   have h:=h.out;rw [e] at h;exact h _ _ _ _ _ W.out O.out
  | false =>
   rw [hov] at cs2 hfin;by_cases hlen:s.ord.length=mo
   ·have hlen':(s.ord.length:Int)=mo:=by omega
    replace W:=yay W;replace O:=yay O;replace hp:=yay hp;replace hlen:=yay hlen
    go_wp2_with fail
    obtain rfl:=hR1.out;clear hR1;refine zao (zbe W.out) (t:=true) rfl ?_;refine zb5 (zbe W.out) ?_;refine zav (zbe W.out) (zaa Try.func173) W.out.tn.seats ⟨rfl,rfl,rfl,_,Try.func173,results_none rfl _ _ _⟩ ?_;have e:zco n mo s (k:Int)=s:=by
     unfold zco;rw [if_neg (by intro z;exact z.2.2 hlen.out)]
    have h:=h.out;rw [e] at h;exact h _ _ _ _ _ W.out O.out
   ·have hlen':¬ (s.ord.length:Int)=mo:=by omega
    have hb:((s.ord.length:Int)==(mo:Int))=false:=beq_eq_false_iff_ne.2 hlen';replace W:=yay W;replace O:=yay O;replace hp:=yay hp;replace hv:=yay hv
    go_wp2_with fail
    obtain rfl:=hR1.out;clear hR1;refine zao (zbe W.out) (t:=false) rfl ?_;refine za7 (zbe W.out) ?_;obtain rfl:=hR0.out;clear hR0 cb cu cn cm co_ cs1 cs2 hp q0 q1 hlen' hb;refine zaf (zbe W.out) fun R0 hR0=>?_;refine zli zgg hloc W.out (zab zah (by kernel_rfl)) rfl (zaa Try.func173) rfl fun wp hp=>?_;have cor:=(zb3 hp _).trans (zae hv.out 0);simp only [yac,yaa] at cor;have hown:wp.ownsRow (w0.heap.size+3) 3 1 (.slice vp s.ord.length vc) s.ord.length (s.ord.map (Value.int .i64)):=by
     obtain ⟨v2,hv2,hr2,hw2⟩:=O.out.fo;have e:=hv2.symm.trans hv.out;obtain rfl:v2 = .slice vp s.ord.length vc:=by simpa using e
     obtain ⟨r1,r2⟩:=hr2;refine ⟨r1,?_⟩;rcases r2 with z|⟨g,cap,cur,z,q1,q2,q3⟩
     ·exact .inl z
     ·exact .inr ⟨g,cap,cur,z,q1,(W.out.mheap hp (hw2 g (by rw [z];rfl)).1).trans q2,q3⟩
    have hsz:=Wd.msize hp;have hAP:=fun v' w2 (ha:zdp (wp.alloc (.cells #[.int .i64 k] 3)) (w0.heap.size+3) 3 (.slice vp s.ord.length vc) s.ord.length 1 (s.ord.map (Value.int .i64)++[.int .i64 k]) v' w2)=>O.out.append W.out.fresh hv.out ha (fun b hb=>W.out.mheap hp hb) hsz;have hlo:=O.out.sz;replace hAP:=yay hAP;replace hown:=yay (hown.alloc (.cells #[.int .i64 k] 3));replace hsz:=yay hsz;replace hlo:=yay hlo;replace hp:=yay hp;obtain ⟨i0,hi0,hz0,hz1,hz2⟩:=info_parts info3;have hne:=World.new_ne wp _ cor;have hsrc:=yay (src_one wp (.int .i64 k) 3 rfl)
    go_wp2_with (at_builtin;go_must (refine zdb rfl (.tmp 32) (.tmp 34) 24 rfl (w0.heap.size+3) 3 i0 _ 8 Try.underlying24 hi0 hz0 hz1 hz2 rfl (.slice vp s.ord.length vc) s.ord.length (s.ord.map (Value.int .i64)) rfl hown.out 1 [.int .i64 k] hsrc.out ?l2 ?b2 ?n2 ?_);go_must (case l2=>(unfold maxLen;omega));go_must (case b2=>omega);go_must (case n2=>(have:=hsz.out;have:=hlo.out;simp;omega));intro v' w6 ha;go_must (obtain ⟨e1,e2,⟨vg,vcc,rfl⟩,e3⟩:=hAP.out _ _ ha);have HE:=yay e3;clear e3 ha)
    obtain ⟨z1,z2,z3⟩:=HE.out;refine ⟨⟨by simpa [World.setCell] using z1,fun b hb ho=>z2 b hb ho⟩,fun w1 W1 hb1 hs1=>?_⟩;have O1:=z3 w1 hb1 (hs1.trans (by simp [World.setCell]));clear z1 z2 z3 HE hb1 hs1 e1 e2 hAP hown hsz hlo hsrc hne cor;obtain rfl:=hR0.out;clear hR0;refine zaf (zbe W1) fun R0 hR0=>?_;refine zbc (zbe W1) 2 (by decide) (by decide) (zai (by kernel_rfl)) W1.tn.seats fun wp2 hp2=>?_;simp only [yad,yae];have cb:=W1.rbx hp2;have hOk:=W1.tn.seats.okd;replace hfin:=yay hfin;replace W1:=yay W1;replace O1:=yay O1;replace hp2:=yay hp2
    go_wp2_with fail
    refine zag hp2.out hOk ?_;refine zal (zbe W1.out) rfl rfl (by decide) rfl Try.func174 (by kernel_rfl) (by kernel_rfl) ?_;walk_nrm;cases hco:s.co k with
    | fin=>rw [hco] at hfin;cases hfin.out
    | cut =>
     exfalso;have:=hdp.out k hk;rw [hco,show mo - s.ord.length=(mo - s.ord.length - 1)+1 by omega] at this;exact this
    | step nx mo' =>
    have est:RowKit.Hid (zco n mo s (k:Int)=⟨nx s.m,upd s.co k (mo' s.m),s.ord++[(k:Int)]⟩):=by
     show zco n mo s (k:Int)=_;unfold zco;rw [if_pos ⟨by omega,by omega,hlen⟩,Int.toNat_natCast,hco]
    refine zkj hloc W1.out hk hov hn (m':=nx s.m) (c':=mo' s.m) (.inr ⟨rfl,nx,mo',hco,rfl,rfl⟩) fun own' A' w₁ ov' w' W' hle hout=>?_;have O':=O1.out.keep hle hout;clear hle hout O1 W1 O W;rw [Frame.finish_at];walk_nrm;refine zad (zbe W') ?_;obtain rfl:=hR0.out;clear hR0;refine zaf (zbe W') fun R0 hR0=>?_;have hov':=W'.co k hk;rw [upd_same] at hov';have hlo:=zkh (c:=mo' s.m) hfin.out n hk;refine zbp zgg W' (zab zah (by kernel_rfl)) rfl (zaa Try.func173) rfl fun wp hp=>?_;have cb:=W'.rbx hp;obtain ⟨_,cu,_⟩:=W'.rtu hp;obtain ⟨esp,cs1⟩:=W'.rsp hp (i:=k) (by omega);obtain ⟨_,_,cs2⟩:=W'.rst hp (i:=k) (by omega);rw [esp,hU] at cu;have q0:(0:Int)≤k:=by omega
    have q1:(k:Int) < n:=by omega
    replace W2:=yay W';replace O2:=yay O';clear W' O';replace hp:=yay hp;cases hb:ov' k with
    | false =>
     rw [hb] at cs2 hov';rw [hov'] at hlo;replace hlo:zbo (upd s.co k (mo' s.m)) n=zbo s.co n:=by simpa using hlo
     replace hlo:=yay hlo;replace hov':=yay hov'
     go_wp2_with fail
     obtain rfl:=hR0.out;clear hR0;refine zao (zbe W2.out) (t:=false) rfl ?_;refine za7 (zbe W2.out) ?_;have O2:=O2.out;have W2:=W2.out;rw [← hlo.out] at O2;refine zhf (zbe W2) ?_;refine zav (zbe W2) (zaa Try.func173) W2.tn.seats ⟨rfl,rfl,rfl,_,Try.func173,results_none rfl _ _ _⟩ ?_;have h:=h.out;rw [est.out] at h;exact h _ _ _ _ _ W2 O2
    | true =>
     rw [hb] at cs2 hov';rw [hov'] at hlo;replace hlo:zbo (upd s.co k (mo' s.m)) n+1=zbo s.co n:=by simpa using hlo
     have hll:=zlf s.co n;replace hov':=yay hov';replace hlo:=yay hlo
     go_wp2_with fail
     obtain rfl:=hR0.out;clear hR0;refine zao (zbe W2.out) (t:=true) rfl ?_;clear cb cu cs1 cs2 hp;refine zli zgg hloc W2.out (zab zah (by kernel_rfl)) rfl (zaa Try.func173) rfl fun wp hp=>?_;have hl:=(W2.out.mheap hp O2.out.om.2.2.2).trans O2.out.fl;have cl:=zae hl 0;have fl:=zau hl 0;simp only [yac,yaa] at cl;have hsz:=Wd.msize hp;have q2:IntKind.i64.wrap ((zbo s.co n:Int) - 1)=(zbo (upd s.co k (mo' s.m)) n:Int):=by have:=hlo.out;rw [IntKind.wrap_i64];omega
     replace hl:=yay hl;replace hp:=yay hp;replace hsz:=yay hsz
     go_wp2_with fail
     refine ⟨⟨Nat.le_of_eq hsz.out.symm,fun b hlt ho=>Below.heap_setCell _ _ _ _ (fun z=>ho (by rw [z];exact O2.out.om.2.2.2))⟩,fun w1 W1 hb1 hs1=>?_⟩;have O1:OvM w0 own0 n mo bl (zbo (upd s.co k (mo' s.m)) n) (s.ord++[(k:Int)]) own' w1:=by
      refine O2.out.setLeft (hs1.trans hsz.out) (fun b hb ho=>((hb1 b ho).trans (Below.heap_setCell _ _ _ _ hb)).trans (W2.out.mheap hp.out ho)) ?_;rw [hb1 bl O2.out.om.2.2.2];exact zaz hl.out 0 _
     clear O2 W2;have O2:=O1;have W2:=W1;refine zhf (zbe W2) ?_;refine zav (zbe W2) (zaa Try.func173) W2.tn.seats ⟨rfl,rfl,rfl,_,Try.func173,results_none rfl _ _ _⟩ ?_;have h:=h.out;rw [est.out] at h;exact h _ _ _ _ _ W2 O2
 ·rcases Classical.em (i < 0) with q0|q0
  ·replace W:=yay W;replace O:=yay O;replace hp:=yay hp
   go_wp2_with fail
   obtain rfl:=hR1.out;clear hR1;refine zao (zbe W.out) (t:=true) rfl ?_;refine zb5 (zbe W.out) ?_;refine zav (zbe W.out) (zaa Try.func173) W.out.tn.seats ⟨rfl,rfl,rfl,_,Try.func173,results_none rfl _ _ _⟩ ?_;have e:zco n mo s i=s:=by
    unfold zco;rw [if_neg (by omega)]
   have h:=h.out;rw [e] at h;exact h _ _ _ _ _ W.out O.out
  ·have q1:(n:Int)≤i:=by omega
   replace W:=yay W;replace O:=yay O;replace hp:=yay hp
   go_wp2_with fail
   obtain rfl:=hR1.out;clear hR1;refine zao (zbe W.out) (t:=true) rfl ?_;refine zb5 (zbe W.out) ?_;refine zav (zbe W.out) (zaa Try.func173) W.out.tn.seats ⟨rfl,rfl,rfl,_,Try.func173,results_none rfl _ _ _⟩ ?_;have e:zco n mo s i=s:=by
    unfold zco;rw [if_neg (by omega)]
   have h:=h.out;rw [e] at h;exact h _ _ _ _ _ W.out O.out
end
section
variable {M:Type} {n mo:Nat}
theorem zja (s:GSt M) (i:Int) (h:s.ord.length≤mo):s.ord.length≤(zco n mo s i).ord.length∧(zco n mo s i).ord.length≤mo:=by
 unfold zco;split
 ·rename_i hh;split
  ·exact ⟨yax _,h⟩
  ·exact ⟨yax _,h⟩
  ·simp;omega
 ·exact ⟨yax _,h⟩
def zhv (n mo:Nat) (s:GSt M) (l:List Int):GSt M:=l.foldl (zco n mo) s
theorem zjr:∀ (l:List Int) (s:GSt M),s.ord.length≤mo→s.ord.length≤(zhv n mo s l).ord.length∧(zhv n mo s l).ord.length≤mo
 | [],s,h=>⟨yax _,h⟩
 | i::l,s,h=>by
  have h1:=zja (n:=n) s i h;have h2:=zjr l (zco n mo s i) h1.2;exact ⟨Nat.le_trans h1.1 h2.1,h2.2⟩
theorem zuc (s:GSt M) (i:Int) (j:Nat) (h:i≠j):(zco n mo s i).co j=s.co j:=by
 unfold zco;split
 ·split
  ·rfl
  ·rfl
  ·exact upd_ne _ _ (by omega)
 ·rfl
structure OkG (n mo:Nat) (s:GSt M):Prop where
 le:s.ord.length≤mo
 deep:∀ j,j < n→Deep (mo - s.ord.length) (s.co j)
theorem OkG.step {s:GSt M} (h:OkG n mo s) (i:Int):OkG n mo (zco n mo s i):=by
 refine ⟨(zja (n:=n) s i h.le).2,?_⟩;unfold zco;split
 ·rename_i hh;split
  ·exact h.deep
  ·exact h.deep
  ·rename_i nx mr hc;intro j hj;have hle:=h.le;have e:mo - s.ord.length=(mo - s.ord.length - 1)+1:=by have:=hh.2.2;omega
   show Deep (mo - (s.ord++[i]).length) (Go.ConcN.upd s.co i.toNat (mr s.m) j);rw [List.length_append,show mo - (s.ord.length+[i].length)=mo - s.ord.length - 1 by simp;omega];by_cases ej:j=i.toNat
   ·subst ej;rw [upd_same];have:=h.deep _ hj;rw [hc,e] at this;exact this s.m
   ·rw [upd_ne _ _ ej];have:=h.deep j hj;rw [e] at this;exact this.less
 ·exact h.deep
theorem OkG.fold {s:GSt M} (h:OkG n mo s):∀ l:List Int,OkG n mo (zhv n mo s l)
 | []=>h
 | i::l=>OkG.fold (h.step i) l
theorem zn4 (s:GSt M) (j:Nat) (hj:j < n) (hf:(s.co j).isFin=false) (hD:OkG n mo s) (h:s.ord.length < mo):s.ord.length < (zco n mo s j).ord.length:=by
 unfold zco;rw [if_pos ⟨by omega,by omega,by omega⟩,Int.toNat_natCast];cases hc:s.co j with
 | fin=>rw [hc] at hf;cases hf
 | cut =>
  exfalso;have:=hD.deep j hj;rw [hc,show mo - s.ord.length=(mo - s.ord.length - 1)+1 by omega] at this;exact this
 | step nx m=>simp
theorem zjs:∀ (r i:Nat) (s:GSt M),i+r=n→OkG n mo s→s.ord.length < mo→∀ j,i≤j→j < n→(s.co j).isFin=false→s.ord.length < (zhv n mo s ((List.range' i r).map Int.ofNat)).ord.length
 | 0,i,s,h,hD,hm,j,h1,h2,hf=>by omega
 | r+1,i,s,h,hD,hm,j,h1,h2,hf=>by
  have h0:=zja (n:=n) s (Int.ofNat i) (Nat.le_of_lt hm);show s.ord.length < (zhv n mo (zco n mo s (Int.ofNat i)) ((List.range' (i+1) r).map Int.ofNat)).ord.length;have hle:=(zjr (n:=n) ((List.range' (i+1) r).map Int.ofNat) _ h0.2).1;by_cases e:i=j
  ·subst e;exact Nat.lt_of_lt_of_le (zn4 s i h2 hf hD hm) hle
  ·rcases Nat.lt_or_ge s.ord.length (zco n mo s (Int.ofNat i)).ord.length with h3|h3
   ·exact Nat.lt_of_lt_of_le h3 hle
   ·have e2:(zco n mo s (Int.ofNat i)).ord.length=s.ord.length:=by omega
    have:=zjs r (i+1) (zco n mo s (Int.ofNat i)) (by omega) (hD.step _) (by omega) j (by omega) h2 (by rw [zuc _ _ _ (fun z=>e (by exact Int.ofNat.inj z))];exact hf);omega
theorem zmz {co:Nat→Co M}:∀ k,0 < zbo co k→∃ j,j < k∧(co j).isFin=false
 | 0,h=>by cases h
 | k+1,h=>by
  cases hf:(co k).isFin with
  | false=>exact ⟨k,by omega,hf⟩
  | true =>
   unfold zbo at h;rw [hf] at h;obtain ⟨j,h1,h2⟩:=zmz k (by simpa using h);exact ⟨j,by omega,h2⟩
def zet (n mo:Nat):Nat→GSt M→GSt M
 | 0,s=>s
 | f+1,s=>if 0 < zbo s.co n∧s.ord.length < mo then zet n mo f (zhv n mo s ((List.range' 0 n).map Int.ofNat)) else s
end
structure H44 (sch:Value) (N bx bl:Nat) (x:Nat→Value):Prop where
 x1:x 1=sch
 x5:x 5 = .pointer (some ⟨N,0,none⟩)
 x6:x 6 = .pointer (some ⟨N+1,0,none⟩)
 x9:x 9 = .pointer (some ⟨N+2,0,none⟩)
 x10:x 10 = .pointer (some ⟨bx,0,none⟩)
 x11:x 11 = .pointer (some ⟨bl,0,none⟩)
 x13:x 13 = .func (.func 173) #[] #[.pointer (some ⟨N+2,0,none⟩),.pointer (some ⟨bx,0,none⟩),.pointer (some ⟨N+1,0,none⟩),.pointer (some ⟨N,0,none⟩),.pointer (some ⟨bl,0,none⟩)]
def znb:Code→Code:=fun c=>cA (cA (cB (cA (nB 8 c))))
section
variable {M:Type} [Priv M] {Rep:M→(Nat→Owner)→World→Prop} {U:Tun} {n:Nat} {own own0:Nat→Owner} {A:Nat→Nat→Prop} {w₀:Nat→W0 M} {w w0:World} {ov:Nat→Bool} {Z:Machine→Trace→Prop} {cs:List Frame} {bl mo:Nat} {R:List Item}
set_option maxRecDepth 100000 in
theorem zqj (hloc:zcp Rep) (hU:U.n=n) (hn:n≤64) (hmo:mo≤1048576) {sb so nS cS:Nat} {sd:Nat→Int} (hsd:∀ j,j < nS→w0.cell? ⟨sb,so+j,none⟩=some (.int .i64 (sd j))) (hsb:0 < nS→sb < w0.heap.size∧(own0 sb = .out∨∀ m own w',Rep m own w'→w'.heap[sb]?=w0.heap[sb]?)) (hnS:nS≤1048576) {sch:Value} (hsch:0 < nS→sch = .slice (some ⟨sb,so,none⟩) nS cS)
  {sf:GSt M} (hend:∀ x own A w₀ ov w,H44 sch w0.heap.size U.bx bl x→Wd Rep U n sf.m sf.co ov own A w₀ w→OvM w0 own0 n mo bl (zbo sf.co n) sf.ord own w→GM Rep Try.prog U Z n sf.co ov A w₀ (G ((base 136).at (A44 x) R) cs) w) :
  ∀ r j (s:GSt M) x own A w₀ ov w,j+r=nS→OkG n mo s→zhv n mo s ((List.range' j r).map sd)=sf→H44 sch w0.heap.size U.bx bl x→x 76=sch→x 77 = .int .i64 nS→x 78 = .int .i64 j→Wd Rep U n s.m s.co ov own A w₀ w→OvM w0 own0 n mo bl (zbo s.co n) s.ord own w →
   GM Rep Try.prog U Z n s.co ov A w₀ (G ((base 136).at (A44 x) (.code (znb c44) :: .inLoop (znb c44) :: .inBlock 4::R)) cs) w:=by
 intro r
 induction r with
 | zero =>
  intro j s x own A w₀ ov w hj hok hs hx h76 h77 h78 W O;have ho:=hok.le;replace hok:=yay hok;obtain rfl:s=sf:=hs;obtain rfl:j=nS:=by omega
  refine zas (zbe W) rfl fun R0 hR0=>?_;rw [show cA (znb c44)=Code.region _ _ _ from rfl]
  refine zbp zgg W (zab zah (by kernel_rfl)) rfl (zaa Try.func136) rfl fun wp hp=>?_;replace hend:=yay hend;replace W:=yay W;replace O:=yay O;unfold A44;simp only [hx.x1,hx.x5,hx.x6,hx.x9,hx.x10,hx.x11,hx.x13,h76,h77,h78]
  go_wp2_with fail
  obtain rfl:=hR0.out;clear hR0;refine zas (zbe W.out) rfl fun R0 hR0=>?_;rw [show cA (cB (znb c44))=Code.cond _ _ _ from rfl]
  refine zao (zbe W.out) (t:=false) rfl ?_;obtain rfl:=hR0.out;clear hR0;refine zh2 (zbe W.out) rfl ?_;rw [zc4 _ rfl];exact hend.out _ _ _ _ _ _ ⟨rfl,rfl,rfl,rfl,rfl,rfl,rfl⟩ W.out O.out
 | succ r ih =>
  intro j s x own A w₀ ov w hj hok hs hx h76 h77 h78 W O;have ho:=hok.le;replace hok:=yay hok;replace ih:=yay ih;replace hs:=yay hs;refine zas (zbe W) rfl fun R0 hR0=>?_;rw [show cA (znb c44)=Code.region _ _ _ from rfl]
  refine zbp zgg W (zab zah (by kernel_rfl)) rfl (zaa Try.func136) rfl fun wp hp=>?_;replace hend:=yay hend;replace W:=yay W;replace O:=yay O;have hlt:(j:Int) < nS:=by omega
  unfold A44;simp only [hx.x1,hx.x5,hx.x6,hx.x9,hx.x10,hx.x11,hx.x13,h76,h77,h78];have hsch':=hsch (by omega);rw [hsch'] at ih ⊢;replace hsch':=yay hsch'
  go_wp2_with fail
  obtain rfl:=hR0.out;clear hR0;refine zas (zbe W.out) rfl fun R0 hR0=>?_;rw [show cA (cB (znb c44))=Code.cond _ _ _ from rfl]
  refine zao (zbe W.out) (t:=true) rfl ?_;refine za7 (zbe W.out) ?_;obtain rfl:=hR0.out;clear hR0;refine zas (zbe W.out) rfl fun R0 hR0=>?_;rw [show cA (cB (cB (znb c44)))=Code.block _ _ from rfl]
  refine zb7 (zbe W.out) ?_;refine zaf (zbe W.out) fun R1 hR1=>?_;refine zbp zgg W.out (zab zah (by kernel_rfl)) rfl (zaa Try.func136) rfl fun wp hp=>?_;have ct:wp.cell? ⟨sb,so+j,none⟩=some (.int .i64 (sd j)):=by
   obtain ⟨q1,q2⟩:=hsb (by omega);refine ((zb3 hp _).trans ?_).trans (hsd j (by omega));unfold World.cell?;rcases q2 with q2|q2
   ·rw [(O.out.low sb q1 q2).2]
   ·rw [q2 _ _ _ W.out.rep]
  have hk0:(0:Int)≤j:=by omega
  replace hR0:=yay hR0;replace hp:=yay hp
  go_wp2_with fail
  obtain rfl:=hR1.out;clear hR1;refine zbc (zbe W.out) 2 (by decide) (by decide) (zai (by kernel_rfl)) W.out.tn.seats fun wp2 hp2=>?_;simp only [yad,yae];have hOk:=W.out.tn.seats.okd;replace hp2:=yay hp2
  go_wp2_with fail
  refine zag hp2.out hOk ?_;refine zkt (zbe W.out) rfl rfl (by decide) rfl rfl Try.func173 (by kernel_rfl) (by kernel_rfl) ?_;walk_nrm;refine zsv hloc W.out O.out hU hn hmo hok.out.le hok.out.deep (sd j) fun own' A' w₁ ov' w' W' O'=>?_;rw [Frame.finish_at];walk_nrm;refine zad (zbe W') ?_;obtain rfl:=hR0.out;clear hR0;refine zbh (zbe W') ?_;rw [show cB (cB (cB (znb c44)))=Code.region _ _ _ from rfl]
  refine zbp zgg W' (zab zah (by kernel_rfl)) rfl (zaa Try.func136) rfl fun wp hp=>?_;have q1:IntKind.i64.wrap ((j:Int)+1)=((j+1:Nat):Int):=by rw [IntKind.wrap_i64];omega
  clear W O;replace W':=yay W';replace O':=yay O'
  go_wp2_with fail
  rw [zc4 _ rfl];refine zcu (zbe W'.out) ?_;exact ih.out (j+1) (zco n mo s (sd j)) _ _ _ _ _ _ (by omega) (hok.out.step _) hs.out ⟨rfl,rfl,rfl,rfl,rfl,rfl,rfl⟩ rfl rfl rfl W'.out O'.out
end
def ztp:Code→Code:=fun c=>cA (cA (cA (nB 9 c)))
def znc:Code→Code:=fun c=>cA (cA (cB (cA (cB (ztp c)))))
section
variable {M:Type} [Priv M] {Rep:M→(Nat→Owner)→World→Prop} {U:Tun} {n:Nat} {own own0:Nat→Owner} {A:Nat→Nat→Prop} {w₀:Nat→W0 M} {w w0:World} {ov:Nat→Bool} {Z:Machine→Trace→Prop} {cs:List Frame} {bl mo:Nat} {R:List Item}
set_option maxRecDepth 100000 in
theorem zqk (hloc:zcp Rep) (hU:U.n=n) (hn:n≤64) (hmo:mo≤1048576) {sch:Value}
  {sf:GSt M} (hend:∀ x own A w₀ ov w,H44 sch w0.heap.size U.bx bl x→Wd Rep U n sf.m sf.co ov own A w₀ w→OvM w0 own0 n mo bl (zbo sf.co n) sf.ord own w→GM Rep Try.prog U Z n sf.co ov A w₀ (G ((base 136).at (A44 x) R) cs) w) :
  ∀ r j (s:GSt M) x own A w₀ ov w,j+r=n→OkG n mo s→zhv n mo s ((List.range' j r).map Int.ofNat)=sf→H44 sch w0.heap.size U.bx bl x→x 94 = .int .i64 n→x 95 = .int .i64 j→Wd Rep U n s.m s.co ov own A w₀ w→OvM w0 own0 n mo bl (zbo s.co n) s.ord own w →
   GM Rep Try.prog U Z n s.co ov A w₀ (G ((base 136).at (A44 x) (.code (znc c44) :: .inLoop (znc c44) :: .inBlock 8::R)) cs) w:=by
 intro r
 induction r with
 | zero =>
  intro j s x own A w₀ ov w hj hok hs hx h94 h95 W O;have ho:=hok.le;replace hok:=yay hok;obtain rfl:s=sf:=hs;obtain rfl:j=n:=by omega
  refine zas (zbe W) rfl fun R0 hR0=>?_;rw [show cA (znc c44)=Code.region _ _ _ from rfl]
  refine zbp zgg W (zab zah (by kernel_rfl)) rfl (zaa Try.func136) rfl fun wp hp=>?_;replace hend:=yay hend;replace W:=yay W;replace O:=yay O;unfold A44;simp only [hx.x1,hx.x5,hx.x6,hx.x9,hx.x10,hx.x11,hx.x13,h94,h95]
  go_wp2_with fail
  obtain rfl:=hR0.out;clear hR0;refine zas (zbe W.out) rfl fun R0 hR0=>?_;rw [show cA (cB (znc c44))=Code.cond _ _ _ from rfl]
  refine zao (zbe W.out) (t:=false) rfl ?_;obtain rfl:=hR0.out;clear hR0;refine zh2 (zbe W.out) rfl ?_;rw [zc4 _ rfl];exact hend.out _ _ _ _ _ _ ⟨rfl,rfl,rfl,rfl,rfl,rfl,rfl⟩ W.out O.out
 | succ r ih =>
  intro j s x own A w₀ ov w hj hok hs hx h94 h95 W O;have ho:=hok.le;replace hok:=yay hok;replace ih:=yay ih;replace hs:=yay hs;refine zas (zbe W) rfl fun R0 hR0=>?_;rw [show cA (znc c44)=Code.region _ _ _ from rfl]
  refine zbp zgg W (zab zah (by kernel_rfl)) rfl (zaa Try.func136) rfl fun wp hp=>?_;replace hend:=yay hend;replace W:=yay W;replace O:=yay O;have hlt:(j:Int) < n:=by omega
  unfold A44;simp only [hx.x1,hx.x5,hx.x6,hx.x9,hx.x10,hx.x11,hx.x13,h94,h95]
  go_wp2_with fail
  obtain rfl:=hR0.out;clear hR0;refine zas (zbe W.out) rfl fun R0 hR0=>?_;rw [show cA (cB (znc c44))=Code.cond _ _ _ from rfl]
  refine zao (zbe W.out) (t:=true) rfl ?_;refine za7 (zbe W.out) ?_;obtain rfl:=hR0.out;clear hR0;refine zas (zbe W.out) rfl fun R0 hR0=>?_;rw [show cA (cB (cB (znc c44)))=Code.block _ _ from rfl]
  refine zb7 (zbe W.out) ?_;refine zaf (zbe W.out) fun R1 hR1=>?_;refine zbp zgg W.out (zab zah (by kernel_rfl)) rfl (zaa Try.func136) rfl fun wp hp=>?_;replace hR0:=yay hR0;replace hp:=yay hp
  go_wp2_with fail
  obtain rfl:=hR1.out;clear hR1;refine zbc (zbe W.out) 2 (by decide) (by decide) (zai (by kernel_rfl)) W.out.tn.seats fun wp2 hp2=>?_;simp only [yad,yae];have hOk:=W.out.tn.seats.okd;replace hp2:=yay hp2
  go_wp2_with fail
  refine zag hp2.out hOk ?_;refine zkt (zbe W.out) rfl rfl (by decide) rfl rfl Try.func173 (by kernel_rfl) (by kernel_rfl) ?_;walk_nrm;refine zsv hloc W.out O.out hU hn hmo hok.out.le hok.out.deep (j:Int) fun own' A' w₁ ov' w' W' O'=>?_;rw [Frame.finish_at];walk_nrm;refine zad (zbe W') ?_;obtain rfl:=hR0.out;clear hR0;refine zbh (zbe W') ?_;rw [show cB (cB (cB (znc c44)))=Code.region _ _ _ from rfl]
  refine zbp zgg W' (zab zah (by kernel_rfl)) rfl (zaa Try.func136) rfl fun wp hp=>?_;have q1:IntKind.i64.wrap ((j:Int)+1)=((j+1:Nat):Int):=by rw [IntKind.wrap_i64];omega
  clear W O;replace W':=yay W';replace O':=yay O'
  go_wp2_with fail
  rw [zc4 _ rfl];refine zcu (zbe W'.out) ?_;exact ih.out (j+1) (zco n mo s j) _ _ _ _ _ _ (by omega) (hok.out.step _) hs.out ⟨rfl,rfl,rfl,rfl,rfl,rfl,rfl⟩ rfl rfl W'.out O'.out
set_option maxRecDepth 100000 in
theorem zod (hloc:zcp Rep) (hU:U.n=n) (hn:n≤64) (hmo:mo≤1048576) {sch:Value}
  {sf:GSt M} (hend:∀ x own A w₀ ov w,H44 sch w0.heap.size U.bx bl x→Wd Rep U n sf.m sf.co ov own A w₀ w→OvM w0 own0 n mo bl (zbo sf.co n) sf.ord own w→GM Rep Try.prog U Z n sf.co ov A w₀ (G ((base 136).at (A44 x) R) cs) w) :
  ∀ f (s:GSt M) x own A w₀ ov w,mo≤s.ord.length+f→OkG n mo s→zet n mo f s=sf→H44 sch w0.heap.size U.bx bl x→Wd Rep U n s.m s.co ov own A w₀ w→OvM w0 own0 n mo bl (zbo s.co n) s.ord own w →
   GM Rep Try.prog U Z n s.co ov A w₀ (G ((base 136).at (A44 x) (.code (ztp c44) :: .inLoop (ztp c44) :: .inBlock 6::R)) cs) w:=by
 intro f
 induction f using Nat.strongRecOn with
 | _ f ih =>
 intro s x own A w₀ ov w hf hok hs hx W O;have ho:=hok.le;replace hok:=yay hok;refine zas (zbe W) rfl fun R0 hR0=>?_;rw [show cA (ztp c44)=Code.seq _ _ from rfl]
 refine zaf (zbe W) fun R1 hR1=>?_;refine zbp zgg W (zab zah (by kernel_rfl)) rfl (zaa Try.func136) rfl fun wp hp=>?_;obtain ⟨v,hv,hr,_⟩:=O.fo;obtain ⟨vp,vc,rfl⟩:=zmt hr;replace hr:=yay hr;have cl:=(zb3 hp _).trans (zae O.fl 0);have cm:=(zb3 hp _).trans (zae O.fm 0);have co_:=(zb3 hp _).trans (zae hv 0);simp only [yac,yaa] at cl cm co_;replace hv:=yay hv;replace hend:=yay hend;replace W:=yay W;replace O:=yay O;replace ih:=yay ih;replace hs:=yay hs;replace hp:=yay hp;unfold A44;simp only [hx.x1,hx.x5,hx.x6,hx.x9,hx.x10,hx.x11,hx.x13];by_cases hl:0 < zbo s.co n
 ·have hl':(0:Int) < zbo s.co n:=by omega
  by_cases hm:s.ord.length < mo
  ·have hm':(s.ord.length:Int) < mo:=by omega
   obtain ⟨f,rfl⟩:∃ f',f=f'+1:=⟨f - 1,by omega⟩;have hgr:s.ord.length < (zhv n mo s ((List.range' 0 n).map Int.ofNat)).ord.length:=by
    obtain ⟨j,h1,h2⟩:=zmz n hl;exact zjs n 0 s (by omega) hok.out hm j (by omega) h1 h2
   have hfo:=hok.out.fold ((List.range' 0 n).map Int.ofNat);have hs':RowKit.Hid (zet n mo f (zhv n mo s ((List.range' 0 n).map Int.ofNat))=sf):=by
    have:=hs.out;unfold zet at this;rw [if_pos ⟨hl,hm⟩] at this;exact this
   clear hs;replace hgr:=yay hgr;replace hfo:=yay hfo
   go_wp2_with fail
   obtain rfl:=hR1.out;clear hR1;refine zao (zbe W.out) (t:=true) rfl ?_;refine za7 (zbe W.out) ?_;obtain rfl:=hR0.out;clear hR0;rw [show cB (ztp c44)=Code.block _ _ from rfl]
   refine zb7 (zbe W.out) ?_;refine zaf (zbe W.out) fun R0 hR0=>?_;clear cl cm co_;refine zbp zgg W.out (zab zah (by kernel_rfl)) rfl (zaa Try.func136) rfl fun wp hp=>?_;have cn:=(zb3 hp _).trans (zae O.out.fn 0);simp only [yac,yaa] at cn;replace hp:=yay hp
   go_wp2_with fail
   obtain rfl:=hR0.out;clear hR0;refine zb7 (zbe W.out) ?_;refine zft (zbe W.out) ?_;rw [zc4 _ rfl];refine zqk (sch:=sch) (sf:=zhv n mo s ((List.range' 0 n).map Int.ofNat)) hloc hU hn hmo (fun x own A w₀ ov w hx W O=>?_) n 0 s _ _ _ _ _ _ (by omega) hok.out rfl ⟨rfl,rfl,rfl,rfl,rfl,rfl,rfl⟩ rfl rfl W.out O.out;refine zbh (zbe W) ?_;refine zcu (zbe W) ?_;exact ih.out f (by omega) _ _ _ _ _ _ _ (by have:=hgr.out;omega) hfo.out hs'.out hx W O
  ·have hm':¬ (s.ord.length:Int) < mo:=by omega
   have stay:zet n mo f s=s:=by
    cases f with
    | zero=>rfl
    | succ f=>unfold zet;rw [if_neg (by omega)]
   go_wp2_with fail
   obtain rfl:=hR1.out;clear hR1;refine zao (zbe W.out) (t:=false) rfl ?_;obtain rfl:=hR0.out;clear hR0;refine zh2 (zbe W.out) rfl ?_;rw [zc4 _ rfl];have e:s=sf:=by rw [← hs.out,stay]
   rw [e] at W O ⊢;exact hend.out _ _ _ _ _ _ ⟨rfl,rfl,rfl,rfl,rfl,rfl,rfl⟩ W.out O.out
 ·have hl':¬ (0:Int) < zbo s.co n:=by omega
  have stay:zet n mo f s=s:=by
   cases f with
   | zero=>rfl
   | succ f=>unfold zet;rw [if_neg (by omega)]
  go_wp2_with fail
  obtain rfl:=hR1.out;clear hR1;refine zao (zbe W.out) (t:=false) rfl ?_;obtain rfl:=hR0.out;clear hR0;refine zh2 (zbe W.out) rfl ?_;rw [zc4 _ rfl];have e:s=sf:=by rw [← hs.out,stay]
  rw [e] at W O ⊢;exact hend.out _ _ _ _ _ _ ⟨rfl,rfl,rfl,rfl,rfl,rfl,rfl⟩ W.out O.out
end
def zlw:Code→Code:=fun c=>cA (cA (cB (cA (nB 11 c))))
structure K44 (N bx:Nat) (stuck:Bool) (x:Nat→Value):Prop where
 x6:x 6 = .pointer (some ⟨N+1,0,none⟩)
 x7:x 7 = .bool stuck
 x10:x 10 = .pointer (some ⟨bx,0,none⟩)
section
variable {M:Type} [Priv M] {Rep:M→(Nat→Owner)→World→Prop} {U:Tun} {n:Nat} {own own0:Nat→Owner} {A:Nat→Nat→Prop} {w₀:Nat→W0 M} {w w0:World} {ov:Nat→Bool} {Z:Machine→Trace→Prop} {cs:List Frame} {bl mo:Nat} {R:List Item}
set_option maxRecDepth 100000 in
theorem zsc (hloc:zcp Rep) (hU:U.n=n) (hn:n≤64) {m:M} {ord:List Int} {left:Int} {stuck:Bool} {sp:Option Addr}
  (hend:∀ co x own A w₀ ov w,K44 w0.heap.size U.bx stuck x→(∀ i,i < n→ov i=true)→Wd Rep U n m co ov own A w₀ w→OvM w0 own0 n mo bl left ord own w→GM Rep Try.prog U Z n co ov A w₀ (G ((base 136).at (A44 x) R) cs) w) :
  ∀ r j co x own A w₀ ov w,j+r=n→K44 w0.heap.size U.bx stuck x→x 107 = .slice U.sp n U.cap→x 108 = .int .i64 n→x 109 = .int .i64 j→(∀ i,i < j→ov i=true)→Wd Rep U n m co ov own A w₀ w→OvM w0 own0 n mo bl left ord own w →
   GM Rep Try.prog U Z n co ov A w₀ (G ((base 136).at (A44 x) (.code (zlw c44) :: .inLoop (zlw c44) :: .inBlock 10::R)) cs) w:=by
 intro r
 induction r with
 | zero =>
  intro j co x own A w₀ ov w hj hx h107 h108 h109 hov W O;obtain rfl:j=n:=by omega
  refine zas (zbe W) rfl fun R0 hR0=>?_;rw [show cA (zlw c44)=Code.region _ _ _ from rfl]
  refine zbp zgg W (zab zah (by kernel_rfl)) rfl (zaa Try.func136) rfl fun wp hp=>?_;replace hend:=yay hend;replace W:=yay W;replace O:=yay O;replace hov:=yay hov;unfold A44;simp only [hx.x6,hx.x7,hx.x10,h107,h108,h109]
  go_wp2_with fail
  obtain rfl:=hR0.out;clear hR0;refine zas (zbe W.out) rfl fun R0 hR0=>?_;rw [show cA (cB (zlw c44))=Code.cond _ _ _ from rfl]
  refine zao (zbe W.out) (t:=false) rfl ?_;obtain rfl:=hR0.out;clear hR0;refine zh2 (zbe W.out) rfl ?_;rw [zc4 _ rfl];exact hend.out _ _ _ _ _ _ _ ⟨rfl,rfl,rfl⟩ hov.out W.out O.out
 | succ r ih =>
  intro j co x own A w₀ ov w hj hx h107 h108 h109 hov W O;have hjn:j < n:=by omega
  replace ih:=yay ih;refine zas (zbe W) rfl fun R0 hR0=>?_;rw [show cA (zlw c44)=Code.region _ _ _ from rfl]
  refine zbp zgg W (zab zah (by kernel_rfl)) rfl (zaa Try.func136) rfl fun wp hp=>?_;obtain ⟨esp,cs1⟩:=W.rsp hp (i:=j) (by omega);clear cs1;rw [esp] at h107;replace esp:=yay esp;replace hend:=yay hend;replace W:=yay W;replace O:=yay O;replace hov:=yay hov;replace hp:=yay hp;have hlt:(j:Int) < n:=by omega
  unfold A44;simp only [hx.x6,hx.x7,hx.x10,h107,h108,h109]
  go_wp2_with fail
  obtain rfl:=hR0.out;clear hR0;refine zas (zbe W.out) rfl fun R0 hR0=>?_;rw [show cA (cB (zlw c44))=Code.cond _ _ _ from rfl]
  refine zao (zbe W.out) (t:=true) rfl ?_;refine za7 (zbe W.out) ?_;obtain rfl:=hR0.out;clear hR0;refine zas (zbe W.out) rfl fun R0 hR0=>?_;rw [show cA (cB (cB (zlw c44)))=Code.block _ _ from rfl]
  refine zb7 (zbe W.out) ?_;refine zaf (zbe W.out) fun R1 hR1=>?_;refine zbp zgg W.out (zab zah (by kernel_rfl)) rfl (zaa Try.func136) rfl fun wp hp=>?_;obtain ⟨_,cs1⟩:=W.out.rsp hp (i:=j) (by omega);have q0:(0:Int)≤j:=by omega
  replace hR0:=yay hR0;replace hp:=yay hp
  go_wp2_with fail
  obtain rfl:=hR1.out;clear hR1;refine zaf (zbe W.out) fun R1 hR1=>?_;refine zbp zgg W.out (zab zah (by kernel_rfl)) rfl (zaa Try.func136) rfl fun wp hp=>?_;obtain ⟨_,_,cs2⟩:=W.out.rst hp (i:=j) (by omega);replace hp:=yay hp;cases hb:ov j with
  | true =>
   rw [hb] at cs2;replace hb:=yay hb
   go_wp2_with fail
   obtain rfl:=hR1.out;clear hR1;refine zao (zbe W.out) (t:=false) rfl ?_;refine za7 (zbe W.out) ?_;have W2:=W.out;have O2:=O.out;have hov2:∀ i,i < j+1→ov i=true:=fun i hi=>by
    by_cases e:i=j
    ·rw [e];exact hb.out
    ·exact hov.out i (by omega)
   clear W O hov;obtain rfl:=hR0.out;clear hR0;refine zbh (zbe W2) ?_;rw [show cB (cB (cB (zlw c44)))=Code.region _ _ _ from rfl]
   refine zbp zgg W2 (zab zah (by kernel_rfl)) rfl (zaa Try.func136) rfl fun wp hp=>?_;have q1:IntKind.i64.wrap ((j:Int)+1)=((j+1:Nat):Int):=by rw [IntKind.wrap_i64];omega
   replace W2:=yay W2;replace O2:=yay O2;replace hov2:=yay hov2;replace hp:=yay hp
   go_wp2_with fail
   rw [zc4 _ rfl];refine zcu (zbe W2.out) ?_;exact ih.out (j+1) _ _ _ _ _ _ _ (by omega) ⟨rfl,rfl,rfl⟩ (by rw [esp.out];rfl) rfl rfl hov2.out W2.out O2.out
  | false =>
   rw [hb] at cs2;replace hb:=yay hb
   go_wp2_with fail
   obtain rfl:=hR1.out;clear hR1;refine zao (zbe W.out) (t:=true) rfl ?_;refine zbc (zbe W.out) 2 (by decide) (by decide) (zai (by kernel_rfl)) W.out.tn.seats fun wp2 hp2=>?_;simp only [yad,yae];have hOk:=W.out.tn.seats.okd;have cb:=W.out.rbx hp2;replace hp2:=yay hp2
   go_wp2_with fail
   refine zag hp2.out hOk ?_;refine zal (zbe W.out) rfl rfl (by decide) rfl Try.func174 (by kernel_rfl) (by kernel_rfl) ?_;walk_nrm;refine zkj hloc W.out hjn hb.out hn (m':=m) (c' := .fin) (.inl ⟨rfl,rfl,rfl⟩) fun own' A' w₁ ov' w' W2 hle hout=>?_;have O2:=O.out.keep hle hout;have hov2:∀ i,i < j+1→ov' i=true:=fun i hi=>by
    have h1:=W2.co i (by omega);by_cases e:i=j
    ·rw [e,upd_same] at h1;rw [e];exact h1.symm
    ·rw [upd_ne _ _ e,W.out.co i (by omega),hov.out i (by omega)] at h1;exact h1.symm
   clear W O hov hle hout;rw [Frame.finish_at];walk_nrm;refine zad (zbe W2) ?_;obtain rfl:=hR0.out;clear hR0;refine zbh (zbe W2) ?_;rw [show cB (cB (cB (zlw c44)))=Code.region _ _ _ from rfl]
   refine zbp zgg W2 (zab zah (by kernel_rfl)) rfl (zaa Try.func136) rfl fun wp hp=>?_;have q1:IntKind.i64.wrap ((j:Int)+1)=((j+1:Nat):Int):=by rw [IntKind.wrap_i64];omega
   replace W2:=yay W2;replace O2:=yay O2;replace hov2:=yay hov2;replace hp:=yay hp
   go_wp2_with fail
   rw [zc4 _ rfl];refine zcu (zbe W2.out) ?_;exact ih.out (j+1) _ _ _ _ _ _ _ (by omega) ⟨rfl,rfl,rfl⟩ (by rw [esp.out];rfl) rfl rfl hov2.out W2.out O2.out
end
def mkU (oo:Os×Array (Nat×ByteArray)) (n bx tu br bk:Nat) (st ps:Nat→Nat) (v:Value) (g0:Nat):Tun :=
 { n:=n,g0:=g0,bx:=bx,tu:=tu,sl:=v.ownBlock.getD br,br:=br,back:=bk,cap:=match v with | .slice _ _ c=>c|_=>0,sp:=match v with | .slice p _ _=>p|_=>none,bp:=some ⟨br,0,none⟩,st:=st,pass:=ps,outs:=oo }
section
variable {oo:Os×Array (Nat×ByteArray)} {w0 w:World} {n bx tu br bk:Nat} {M:Int} {st ps:Nat→Nat} {v:Value}
theorem Stands.tn (h:Stands w0 n M bx tu br bk n st ps v w) (g0:Nat):Tn (mkU oo n bx tu br bk st ps v g0) (fun _=>false) (fun _=>false) w:=by
 obtain ⟨ao,c,rfl⟩:=zmt h.row;refine ⟨h.fbx,h.ftu,?_,⟨_,h.fbr,size_madeCells _ _,fun i hi=>?_⟩,fun i hi=>h.sts i hi,⟨0,h.fbk⟩,fun i hi=>⟨0,h.psc i hi⟩⟩
 ·rcases h.row.2 with ⟨e,h0⟩|⟨g,cap,cur,e,_,hg,hc,hm,hs,htk⟩
  ·have h0':n=0:=h0;injection e with e1 e2 e3;subst e1;exact ⟨_,_,h.fbr,fun i hi=>by have hi':i < n:=hi;omega⟩
  ·injection e with e1 e2 e3;subst e1;refine ⟨cur,303,hg,fun i hi=>?_⟩;have hi':i < n:=hi;show cur[i]?=some (.pointer (some ⟨st i,0,none⟩));have:=congrArg (·[i]?) htk;simp only [Nat.mul_one,List.getElem?_take_of_lt hi',List.getElem?_map,List.getElem?_range hi',Option.map_some] at this
   simpa using this
 ·have hi':i < n:=hi;have:(madeCells #[Value.bool false] n).toList[i]?=some (.bool false):=by
   rw [toList_madeCells_one];simp [hi']
  simpa using this
theorem Stands.more {k:Nat} {w1:World} (h:Stands w0 n M bx tu br bk k st ps v w) (hs:w.heap.size≤w1.heap.size) (hb:∀ b,b < w.heap.size→w1.heap[b]?=w.heap[b]?) (eo:w1.os=w.os∧w1.output=w.output):Stands w0 n M bx tu br bk k st ps v w1:=by
 have lt:∀ {b:Nat} {o:Obj},w.heap[b]?=some o→w1.heap[b]?=some o:=fun e=>(hb _ (yah.1 e).1).trans e;have hsz:=h.sz;refine ⟨lt h.fm,lt h.fo,lt h.fn,lt h.fbx,lt h.ftu,lt h.fbr,lt h.fbk,h.ge,fun b hlt=>(hb b (by omega)).trans (h.low b hlt),?_,fun i hi=>lt (h.sts i hi),fun i hi=>lt (h.psc i hi),h.injS,h.injP,h.pb,h.ges,by omega,eo.1.trans h.outs.1,eo.2.trans h.outs.2⟩;obtain ⟨x,y⟩:=h.row;refine ⟨x,?_⟩;rcases y with e|⟨g,cap,cur,e,q1,q2,q3⟩
 ·exact .inl e
 ·exact .inr ⟨g,cap,cur,e,q1,lt q2,q3⟩
theorem Stands.wf (h:Stands w0 n M bx tu br bk n st ps v w) (g0:Nat) (hg:0 < g0):(mkU oo n bx tu br bk st ps v g0).Wf:=by
 refine ⟨hg,fun hn=>?_,fun hn=>rfl,h.injS,h.injP,h.pb⟩;have hn':0 < n:=hn;rcases h.row.2 with ⟨_,h0⟩|⟨g,cap,cur,rfl,_⟩
 ·omega
 ·rfl
theorem Stands.blk (h:Stands w0 n M bx tu br bk n st ps v w) (g0:Nat) {b:Nat} (hb:(mkU oo n bx tu br bk st ps v g0).blk b):w0.heap.size+3≤b∧b < w.heap.size:=by
 refine ⟨?_,(h.tn g0).lt hb⟩;have hge:=h.ge;rcases hb with e|e|e|e|e|⟨i,hi,e|e⟩
 ·rw [e];exact hge.1
 ·rw [e];exact hge.2.1
 ·rw [e];show w0.heap.size+3≤v.ownBlock.getD br;cases ho:v.ownBlock with
  | none=>exact hge.2.2.1
  | some g=>exact (h.row.lt g ho).1
 ·rw [e];exact hge.2.2.1
 ·rw [e];exact hge.2.2.2
 ·rw [e];exact (h.ges i hi).1
 ·rw [e];exact (h.ges i hi).2
end
open Classical in
noncomputable def zq0 (U:Tun) (own0:Nat→Owner):Nat→Owner:=fun b=>if U.blk b then .tun else own0 b
section
variable {oo:Os×Array (Nat×ByteArray)} {M:Type} [Priv M] {Rep:M→(Nat→Owner)→World→Prop} {w0 w w1:World} {n bx tu br bk bl:Nat} {Mo:Int} {st ps:Nat→Nat} {v:Value} {own0:Nat→Owner} {m:M}
theorem Stands.wd (hloc:zcp Rep) (h:Stands w0 n Mo bx tu br bk n st ps v w) (g0:Nat) (hg:0 < g0) (hR:Rep m own0 w0) (hf:∀ b,w0.heap.size≤b→own0 b = .out) :
  Wd Rep (mkU oo n bx tu br bk st ps v g0) 0 m (fun _ => .fin) (fun _=>false) (zq0 (mkU oo n bx tu br bk st ps v g0) own0) (fun _ _=>False) (fun _=>⟨#[],m,fun _ => .out⟩) w:=by
 refine ⟨h.wf g0 hg,Nat.zero_le _,h.tn g0,fun b hb=>by unfold zq0;rw [if_pos hb],hloc _ _ _ _ _ hR ⟨fun b hb=>?_,fun b v hb=>?_⟩,fun b hb=>?_,fun i hi=>by omega,fun _ _=>rfl,fun i hi=>by omega,fun _ _=>rfl,fun i hi b v hv=>(by cases hv),fun i hi=>by omega⟩
 ·have hlt:b < w0.heap.size:=by
   rcases Nat.lt_or_ge b w0.heap.size with z|z
   ·exact z
   ·exact absurd (hf b z) hb.out
  refine ⟨?_,h.low b hlt⟩;unfold zq0;rw [if_neg (fun z=>by have:=(h.blk g0 z).1;omega)]
 ·unfold zq0 at hb;split at hb
  ·cases hb
  ·exact hb
 ·unfold zq0;rw [if_neg (fun z=>by have:=(h.blk g0 z).2;omega)];exact hf b (by have:=h.sz;omega)
theorem Stands.ovm (h:Stands w0 n Mo bx tu br bk n st ps v w) (g0:Nat) (hf:∀ b,w0.heap.size≤b→own0 b = .out) (hb:∀ b,b < w.heap.size→w1.heap[b]?=w.heap[b]?) (hs:w.heap.size≤w1.heap.size) (hbl:w.heap.size≤bl) (hl:w1.heap[bl]?=some (.cells #[.int .i64 0] 3 (0,0))) :
  OvM w0 own0 n Mo bl 0 [] (zq0 (mkU oo n bx tu br bk st ps v g0) own0) w1:=by
 have lt:∀ {b:Nat} {o:Obj},w.heap[b]?=some o→b < w.heap.size:=fun e=>(yah.1 e).1;have out:∀ b,(b < w0.heap.size+3∨w.heap.size≤b)→zq0 (mkU oo n bx tu br bk st ps v g0) own0 b=own0 b:=fun b hh=>by
  unfold zq0;rw [if_neg (fun z=>by have:=h.blk g0 z;omega)]
 have hsz:=h.sz;refine ⟨(hb _ (lt h.fm)).trans h.fm,(hb _ (lt h.fn)).trans h.fn,hl,⟨_,(hb _ (lt h.fo)).trans h.fo,World.ownsRow_nil _ _ _ _,fun g hg=>by simp [Value.ownBlock] at hg⟩,by omega,⟨?_,?_,?_,?_⟩,fun b hlt ho=>⟨?_,(hb b (by omega)).trans (h.low b hlt)⟩,by omega⟩
 ·rw [out _ (by omega)];exact hf _ (by omega)
 ·rw [out _ (by omega)];exact hf _ (by omega)
 ·rw [out _ (by omega)];exact hf _ (by omega)
 ·rw [out _ (by omega)];exact hf _ (by omega)
 ·rw [out _ (by omega)];exact ho
end
theorem zn7 {fn:Func} {p u v:Tmp} {ty:TypeId} (h:fn.results=#[.cell p ty,.tmp u,.tmp v]) (tmps:Array Value) (P:Program) (w:World) (y:Value) (x:Addr) (hp:tmps.getD p undef = .pointer (some x)) (hl:(loadVar ty x).run P w = .ok y w) :
  (results fn tmps).run P w = .ok (.tuple #[y,tmps.getD u undef,tmps.getD v undef]) w:=by
 simp only [results,h];have hp':tmps[p]?.getD undef = .pointer (some x):=by simpa using hp
 simp [Result.andThen,hp',asAddr,hl]
theorem zjc {M:Type} {n mo:Nat} {φ:Nat→Fu M} {m0:M} (h:∀ i,i < n→∀ m,Deep mo (φ i m).2):∀ k,k≤n→∀ j,Deep mo ((zbf φ m0 k).2 j)
 | 0,_,j=>by
  show Deep mo Co.fin;cases mo<;>trivial
 | k+1,hk,j=>by
  show Deep mo (Go.ConcN.upd (zbf φ m0 k).2 k (φ k (zbf φ m0 k).1).2 j);by_cases e:j=k
  ·subst e;rw [upd_same];exact h _ (by omega) _
  ·rw [upd_ne _ _ e];exact zjc h k (by omega) j
theorem zmj {M:Type} {n mo:Nat} {φ:Nat→Fu M} {m0:M} (h:∀ i,i < n→∀ m,Deep mo (φ i m).2):OkG n mo ⟨(zbf φ m0 n).1,(zbf φ m0 n).2,[]⟩ :=
 ⟨Nat.zero_le _,fun j _=>zjc h n (yax _) j⟩
def zmr {M:Type} (n mo:Nat) (φ:Nat→Fu M) (m0:M) (sched:List Int):GSt M :=
 zet n mo mo (zhv n mo ⟨(zbf φ m0 n).1,(zbf φ m0 n).2,[]⟩ sched)
section
variable {M:Type} [Priv M] {Rep:M→(Nat→Owner)→World→Prop} {Z:Machine→Trace→Prop}
set_option maxRecDepth 100000 in
theorem zsb (hloc:zcp Rep) {c:Frame} {cs:List Frame} {w:World} {ta sa:Option Addr} {nT cT nS cS n mo:Nat} {most:Int} (hn:min (nT:Int) 64=n) (hM:min (max most 0) 1048576=mo) (hmost:most < 9223372036854775808)
  {own0:Nat→Owner} {m0:M} (hR:Rep m0 own0 w) (hf:∀ b,w.heap.size≤b→own0 b = .out)
  {tb to:Nat} {F:Nat→Value} (hta:0 < n→ta=some ⟨tb,to,none⟩) (hF:∀ i,i < n→w.cell? ⟨tb,to+i,none⟩=some (F i)) (htb:0 < n→tb < w.heap.size∧own0 tb = .out)
  {sb so:Nat} {sd:Nat→Int} (hsa:0 < nS→sa=some ⟨sb,so,none⟩) (hsd:∀ j,j < nS→w.cell? ⟨sb,so+j,none⟩=some (.int .i64 (sd j))) (hsb:0 < nS→sb < w.heap.size∧(own0 sb = .out∨∀ m own w',Rep m own w'→w'.heap[sb]?=w.heap[sb]?)) (hnS:nS≤1048576)
  {φ:Nat→Fu M} (hdeep:∀ i,i < n→∀ m,Deep mo (φ i m).2) (hφ:∀ U:Tun,U.n=n→∀ i,i < n→zbi i (φ i)∧∀ h o,GOF Rep Try.prog U i (φ i) (fun _=>False) ⟨h,m0,o⟩ (born Try.prog (zko U.tu i (F i))))
  (h:∀ own' w' vo bp,Rep (zmr n mo φ m0 ((List.range' 0 nS).map sd)).m own' w'→(∀ b,b < w.heap.size→own0 b = .out→own' b = .out∧w'.heap[b]?=w.heap[b]?)→w.heap.size≤w'.heap.size→(w'.os=w.os∧w'.output=w.output)→(∀ b,w'.heap.size≤b→own' b = .out) →
   w'.ownsRow w.heap.size 3 1 vo (zmr n mo φ m0 ((List.range' 0 nS).map sd)).ord.length ((zmr n mo φ m0 ((List.range' 0 nS).map sd)).ord.map (Value.int .i64)) →
   RM Try.prog Z (G (c.finish (.tuple #[vo,.bool (decide (0 < zbo (zmr n mo φ m0 ((List.range' 0 nS).map sd)).co n)),.slice bp n n])) cs) w') :
  RM Try.prog Z (G (Frame.enter Try.prog 136 #[.slice ta nT cT,.slice sa nS cS,.int .i64 most] .normal) (c::cs)) w:=by
 have hn64:n≤64:=by omega
 have hmo:mo≤1048576:=by omega
 refine over_r3 hn hM hmost fun x bx tu br bk w1 _ _ _ hx hB=>?_;refine zoc hn64 hx hB fun x st ps v w2 hx S=>?_;clear hB;refine zas rm_xc rfl fun R0 hR0=>?_;rw [show cA (cB (cB (cB (cB (cB c44)))))=Code.region _ _ _ from rfl]
 refine zbg zr6 (zab zah (by kernel_rfl)) rfl (zaa Try.func136) rfl fun wp hp=>?_;replace h:=yay h;replace S:=yay S;replace hR:=yay hR;unfold A44;simp only [hx.x0,hx.x1,hx.x5,hx.x6,hx.x9,hx.x10];replace hp:=yay hp
 go_wp2_with fail
 refine fun w3 h3=>?_;have s0:wp.heap.size=w2.heap.size:=by rw [hp.out.heap]
 have hlt3:∀ b,b < w2.heap.size→w3.heap[b]?=w2.heap[b]?:=fun b hb=>by
  rw [h3.heap,Below.heap_alloc _ _ _ (by omega),hp.out.heap]
 have hl3:w3.heap[w2.heap.size]?=some (.cells #[.int .i64 0] 3 (0,0)):=by
  rw [h3.heap,← s0];exact heap_alloc_new _ _
 have hs3:w2.heap.size≤w3.heap.size:=by
  have:w3.heap.size=wp.heap.size+1:=by rw [h3.heap];simp
  omega
 rw [s0];obtain rfl:=hR0.out;have u3:w3.os=w2.os∧w3.output=w2.output:=⟨h3.outs.1.trans hp.out.outs.1,h3.outs.2.trans hp.out.outs.2⟩;clear hR0 s0 h3 hp wp;refine zas rm_xc rfl fun R0 hR0=>?_;rw [show cA (cB (cB (cB (cB (cB (cB c44))))))=Code.seq _ _ from rfl]
 refine zaf rm_xc fun R1 hR1=>?_;refine zbg zr6 (zab zah (by kernel_rfl)) rfl (zaa Try.func136) rfl fun wp hp=>?_;have cn:wp.cell? ⟨w.heap.size+2,0,none⟩=some (.int .i64 n):=zae (by rw [hp.heap];exact (S.out.more hs3 hlt3 u3).fn) 0;replace hp:=yay hp
 go_wp2_with fail
 refine fun w4 h4=>?_;have e4:w4.heap=w3.heap:=by rw [h4.heap,hp.out.heap]
 have S4:=(S.out.more hs3 hlt3 u3).heap e4 ⟨h4.outs.1.trans hp.out.outs.1,h4.outs.2.trans hp.out.outs.2⟩;have O4:∀ g0,OvM w own0 n mo w2.heap.size 0 [] (zq0 (mkU (w.os,w.output) n bx tu br bk st ps v g0) own0) w4:=fun g0=>S.out.ovm g0 hf (fun b hb=>by rw [e4];exact hlt3 b hb) (by rw [e4];exact hs3) (yax _) (by rw [e4];exact hl3);generalize hbl:w2.heap.size=bl at *;clear h4 hp cn hl3 hs3 hlt3 S hbl e4 u3;obtain rfl:=hR1.out;clear hR1;refine rm_open (Rep:=Rep) (U:=mkU (w.os,w.output) n bx tu br bk st ps v) (A:=fun _ _=>False) (w₀:=fun _=>⟨#[],m0,fun _ => .out⟩) (co:=fun _ => .fin) (fun _=>rfl) (fun g0=>S4.tn g0) (fun _=>S4.outs) fun g0 hg0=>?_;have W4:=S4.wd (oo:=(w.os,w.output)) hloc g0 hg0 hR.out hf;replace O4:=O4 g0;have hUo:(mkU (w.os,w.output) n bx tu br bk st ps v g0).outs=(w.os,w.output):=rfl;have hbx:(mkU (w.os,w.output) n bx tu br bk st ps v g0).bx=bx:=rfl;have hUn:(mkU (w.os,w.output) n bx tu br bk st ps v g0).n=n:=rfl;clear S4;generalize mkU (w.os,w.output) n bx tu br bk st ps v g0=U at *;subst hbx;refine zb7 (zbe W4) ?_;refine zft (zbe W4) ?_;rw [zc4 _ rfl];refine zqi (R:=R0) (thr := .slice ta nT cT) (sch := .slice sa nS cS) hloc hn64 (tb:=tb) (to:=to) (cT:=cT) (F:=F) (fun h0=>⟨nT,by rw [hta h0],by omega⟩) hF htb (hφ U hUn) hUn (fun x own A w₀ ov w' hx W O=>?_) n 0 _ _ _ _ _ _ (by omega) (fun _ _=>rfl) ⟨⟨rfl,rfl,rfl,rfl,rfl,rfl⟩,rfl⟩ rfl rfl W4 O4;clear W4 O4;obtain rfl:=hR0.out;clear hR0;have S0:((zbf φ m0 n).1,(zbf φ m0 n).2)=zbf φ m0 n:=rfl;refine zas (zbe W) rfl fun R0 hR0=>?_;rw [show cA (cB (cB (cB (cB (cB (cB (cB c44)))))))=Code.region _ _ _ from rfl]
 refine zbp zgg W (zab zah (by kernel_rfl)) rfl (zaa Try.func136) rfl fun wp hp=>?_;replace W:=yay W;replace O:=yay O;replace hp:=yay hp;unfold A44;simp only [hx.x0,hx.x1,hx.x5,hx.x6,hx.x9,hx.x10,hx.x11]
 go_wp2_with fail
 obtain rfl:=hR0.out;clear hR0;refine zas (zbe W.out) rfl fun R0 hR0=>?_;rw [show cA (cB (cB (cB (cB (cB (cB (cB (cB c44))))))))=Code.seq _ _ from rfl]
 refine zaf (zbe W.out) fun R1 hR1=>?_;refine zbp zgg W.out (zab zah (by kernel_rfl)) rfl (zaa Try.func136) rfl fun wp hp=>?_;replace hp:=yay hp
 go_wp2_with fail
 obtain rfl:=hR1.out;clear hR1;refine zb7 (zbe W.out) ?_;refine zft (zbe W.out) ?_;rw [zc4 _ rfl];refine zqj (R:=R0) (sch := .slice sa nS cS) hloc hUn hn64 hmo (sb:=sb) (so:=so) (cS:=cS) (sd:=sd) hsd hsb hnS (fun h0=>by rw [hsa h0]) (sf:=zhv n mo ⟨(zbf φ m0 n).1,(zbf φ m0 n).2,[]⟩ ((List.range' 0 nS).map sd)) (fun x own A w₀ ov w' hx W O=>?_) nS 0 ⟨(zbf φ m0 n).1,(zbf φ m0 n).2,[]⟩ _ _ _ _ _ _ (by omega) (zmj hdeep) rfl ⟨rfl,rfl,rfl,rfl,rfl,rfl,rfl⟩ rfl rfl rfl W.out O.out;have hle:=(zjr (n:=n) (mo:=mo) ((List.range' 0 nS).map sd) ⟨(zbf φ m0 n).1,(zbf φ m0 n).2,[]⟩ (Nat.zero_le _)).2;have hok:=(zmj (n:=n) (mo:=mo) (φ:=φ) (m0:=m0) hdeep).fold ((List.range' 0 nS).map sd);obtain rfl:=hR0.out;clear hR0;refine zas (zbe W) rfl fun R0 hR0=>?_;rw [show cA (cB (cB (cB (cB (cB (cB (cB (cB (cB c44)))))))))=Code.block _ _ from rfl]
 refine zb7 (zbe W) ?_;refine zft (zbe W) ?_;refine zod (R:=R0) (sch := .slice sa nS cS) hloc hUn hn64 hmo (sf:=zmr n mo φ m0 ((List.range' 0 nS).map sd)) (fun x own A w₀ ov w' hx W O=>?_) mo _ _ _ _ _ _ _ (Nat.le_add_left _ _) hok rfl hx W O;obtain rfl:=hR0.out;clear hR0 hle hok;generalize zmr n mo φ m0 ((List.range' 0 nS).map sd)=sf at *;refine zas (zbe W) rfl fun R0 hR0=>?_;rw [show cA (cB (cB (cB (cB (cB (cB (cB (cB (cB (cB c44))))))))))=Code.region _ _ _ from rfl]
 refine zbp zgg W (zab zah (by kernel_rfl)) rfl (zaa Try.func136) rfl fun wp hp=>?_;have cl:=(zb3 hp _).trans (zae O.fl 0);simp only [yac,yaa] at cl;replace W:=yay W;replace O:=yay O;replace hp:=yay hp;unfold A44;simp only [hx.x1,hx.x5,hx.x6,hx.x9,hx.x10,hx.x11,hx.x13]
 go_wp2_with fail
 obtain rfl:=hR0.out;clear hR0 cl hp wp;refine zas (zbe W.out) rfl fun R0 hR0=>?_;rw [show cA (cB (cB (cB (cB (cB (cB (cB (cB (cB (cB (cB c44)))))))))))=Code.seq _ _ from rfl]
 refine zaf (zbe W.out) fun R1 hR1=>?_;refine zbp zgg W.out (zab zah (by kernel_rfl)) rfl (zaa Try.func136) rfl fun wp hp=>?_;have cb:=W.out.rbx hp;have cu:=(W.out.rtu hp).2.1;rw [hUn] at cu;replace hp:=yay hp
 go_wp2_with fail
 obtain rfl:=hR1.out;clear hR1;refine zb7 (zbe W.out) ?_;refine zft (zbe W.out) ?_;rw [zc4 _ rfl];refine zsc (R:=R0) (stuck:=decide (0 < zbo sf.co n)) (sp:=U.sp) hloc hUn hn64 (fun co x own A w₀ ov w' hx hov W O=>?_) n 0 _ _ _ _ _ _ _ (by omega) ⟨rfl,rfl,rfl⟩ rfl rfl rfl (fun i hi=>by omega) W.out O.out;obtain rfl:=hR0.out;clear hR0 cb cu hp wp;refine zu7 hov fun hout=>?_;rw [hUo] at hout;obtain ⟨vo,hvo,hrow,hvw⟩:=O.fo;obtain ⟨vp,vc,rfl⟩:=zmt hrow;have c1:=zae W.tn.bx 0;have c2:=zae W.tn.tu 2;have c3:=zae hvo 0;have c4:=zau hvo 0;rw [hUn] at c2;simp only [yac,yaa,yab] at c1 c2 c3;have hlow:=O.low;have hsz:=O.sz;have hrep:=W.rep;have hfr:=yay W.fresh;have n1:U.bx≠w.heap.size+1:=fun e=>by have h1:=W.tun _ (.inl rfl);rw [e,O.om.2.1] at h1;cases h1
 have n2:U.tu≠w.heap.size+1:=fun e=>by have h1:=W.tun _ (.inr (.inl rfl));rw [e,O.om.2.1] at h1;cases h1
 clear W O;refine zas rm_xc rfl fun R0 hR0=>?_;rw [show cA (cB (cB (cB (cB (cB (cB (cB (cB (cB (cB (cB (cB c44))))))))))))=Code.region _ _ _ from rfl]
 refine zbg zr6 (zab zah (by kernel_rfl)) rfl (zaa Try.func136) rfl fun wp hp=>?_;have same:∀ a,wp.cell? a=w'.cell? a:=fun a=>by unfold World.cell?;rw [hp.heap]
 have d1:=(same _).trans c1;have d2:=(same _).trans c2;have d3:=(same _).trans c3;have d4:wp.frozen? ⟨w.heap.size+1,0,none⟩=false:=by unfold World.frozen? at c4 ⊢;rw [hp.heap];exact c4
 clear same c1 c2 c3 c4;unfold A44;simp only [hx.x6,hx.x7,hx.x10];replace hp:=yay hp;replace hrow:=yay hrow;replace hlow:=yay hlow;replace hrep:=yay hrep;replace hvo:=yay hvo;replace hvw:=yay hvw;go_region
 refine And.intro rfl ?_;intro w5 h5;obtain rfl:=hR0.out;clear hR0;have hh:∀ b:Nat,w5.heap[b]?=w'.heap[b]?:=fun b=>by
  rw [h5.heap];show (wp.setCell ⟨w.heap.size+1,0,none⟩ (Value.slice vp sf.ord.length vc)).heap[b]?=_;by_cases e:b=w.heap.size+1
  ·subst e;rw [zaz (by rw [hp.out.heap];exact hvo.out) 0,hvo.out];rfl
  ·rw [Below.heap_setCell _ _ _ _ e,hp.out.heap]
 have u5:w5.os=w.os∧w5.output=w.output:=⟨(h5.outs.1.trans hp.out.outs.1).trans hout.1,(h5.outs.2.trans hp.out.outs.2).trans hout.2⟩;have hs5:w5.heap.size=w'.heap.size:=by
  rw [h5.heap];show (wp.setCell ⟨w.heap.size+1,0,none⟩ (Value.slice vp sf.ord.length vc)).heap.size=_;rw [← hp.out.heap];simp [World.setCell]
 rw [show cB (cB (cB (cB (cB (cB (cB (cB (cB (cB (cB (cB (cB c44))))))))))))=Code.ret from rfl]
 refine zb5 rm_xc ?_;have d5:w5.cell? ⟨w.heap.size+1,0,none⟩=some (.slice vp sf.ord.length vc):=by
  have q:=zae ((hh _).trans hvo.out) 0;exact q
 refine zav rm_xc (zaa Try.func136) (zax _) (v := .tuple #[.slice vp sf.ord.length vc,.bool (decide (0 < zbo sf.co n)),.slice U.bp n n]) (by
  rw [zbx];refine ⟨rfl,rfl,rfl,_,Try.func136,?_⟩;refine zn7 (p:=6) (u:=7) (v:=8) (ty:=24) rfl _ _ _ _ ⟨w.heap.size+1,0,none⟩ rfl ?_;simp [loadVar,go_sem,d5]) ?_
 have lt:∀ {b:Nat} {o:Obj},w'.heap[b]?=some o→b < w'.heap.size:=fun e=>(yah.1 e).1;refine h.out own w5 _ _ (hloc _ _ _ _ _ hrep.out (zcr fun b hb=>hh b)) (fun b hb ho=>⟨(hlow.out b hb ho).1,(hh b).trans (hlow.out b hb ho).2⟩) (by omega) u5 (fun b hb=>hfr.out b (by omega)) ?_;obtain ⟨r1,r2⟩:=hrow.out;refine ⟨r1,?_⟩;rcases r2 with e|⟨g,cap,cur,e,q1,q2,q3⟩
 ·exact .inl e
 ·exact .inr ⟨g,cap,cur,e,by omega,(hh g).trans q2,q3⟩
end
end Go.Proofs.Ytofacoojpgkbiaa
namespace Go.Proofs.Ytofacoojpgkbiaa
open Go.ConcN (upd upd_ne upd_same)
set_option maxRecDepth 100000
section
variable {M:Type} {n mo:Nat}
end
end Go.Proofs.Ytofacoojpgkbiaa
