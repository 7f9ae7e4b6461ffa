/-
  Merged out of: KTurn1. No condition of its own.
-/
import Derived.Test.YtofacoojpgkbiaaPlaysP06
set_option linter.unusedVariables false
set_option maxHeartbeats 8000000
set_option linter.unusedSimpArgs false
/-
 THE TURNSTILE: its blocks,what stands still,who owns which block;coroutines;what a thread brings about between two of its steps. No condition of its own.
-/
namespace Go.Proofs.Ytofacoojpgkbiaa
open Go.Conc
open Go.ConcN (upd upd_ne upd_same)
set_option maxRecDepth 100000
inductive Owner where
 | out
 | tun
 | sh
 | th (i:Nat)
 | tag (v:Nat)
 deriving DecidableEq
def Owner.pub (o:Owner):Prop:=o = .sh∨∃ v,o = .tag v
theorem Owner.pub.out {o:Owner} (h:o.pub):o ≠ .out:=by rintro rfl;rcases h with h | ⟨v,h⟩<;>cases h
theorem Owner.pub.tun {o:Owner} (h:o.pub):o ≠ .tun:=by rintro rfl;rcases h with h | ⟨v,h⟩<;>cases h
theorem Owner.pub.th {o:Owner} (h:o.pub) (i:Nat):o ≠ .th i:=by rintro rfl;rcases h with h | ⟨v,h⟩<;>cases h
def Kept (own own':Nat→Owner) (w w':World):Prop:=(∀ b,(own b).pub→own' b=own b∧w'.heap[b]?=w.heap[b]?)∧∀ b v,own' b = .tag v→own b = .tag v
theorem zcs {own:Nat→Owner} {w w':World} (h:∀ b,(own b).pub→w'.heap[b]?=w.heap[b]?):Kept own own w w':=⟨fun b hb=>⟨rfl,h b hb⟩,fun _ _ h=>h⟩
theorem Kept.sh {own own':Nat→Owner} {w w':World} (h:Kept own own' w w') {b:Nat} (hb:own b = .sh):own' b = .sh∧w'.heap[b]?=w.heap[b]?:=⟨(h.1 b (.inl hb)).1.trans hb,(h.1 b (.inl hb)).2⟩
theorem Kept.tag {own own':Nat→Owner} {w w':World} (h:Kept own own' w w') {b v:Nat} (hb:own b = .tag v):own' b = .tag v∧w'.heap[b]?=w.heap[b]?:=⟨(h.1 b (.inr ⟨v,hb⟩)).1.trans hb,(h.1 b (.inr ⟨v,hb⟩)).2⟩
structure Tun where
 n:Nat
 g0:Nat
 bx:Nat
 tu:Nat
 sl:Nat
 br:Nat
 back:Nat
 cap:Nat
 sp:Option Addr
 bp:Option Addr
 st:Nat→Nat
 pass:Nat→Nat
 outs:Os×Array (Nat×ByteArray)
structure Tun.Wf (U:Tun):Prop where
 g0:0 < U.g0
 sp:0 < U.n→U.sp=some ⟨U.sl,0,none⟩
 bp:0 < U.n→U.bp=some ⟨U.br,0,none⟩
 st:∀ i j,i < U.n→j < U.n→U.st i=U.st j→i=j
 pass:∀ i j,i < U.n→j < U.n→U.pass i=U.pass j→i=j
 back:∀ i,i < U.n→U.pass i≠U.back
def Tun.blk (U:Tun) (b:Nat):Prop:=b=U.bx∨b=U.tu∨b=U.sl∨b=U.br∨b=U.back∨∃ i,i < U.n∧(b=U.st i∨b=U.pass i)
structure Tn (U:Tun) (ov bv:Nat→Bool) (w:World):Prop where
 bx:w.heap[U.bx]?=some (.cells #[.pointer (some ⟨U.tu,0,none⟩)] 298 (0,0))
 tu:w.heap[U.tu]?=some (.cells #[.chan (some U.back),.slice U.sp U.n U.cap,.slice U.bp U.n U.n] 302 (0,0))
 sl:∃ c e,w.heap[U.sl]?=some (.cells c e (0,0))∧∀ i,i < U.n→c[i]?=some (.pointer (some ⟨U.st i,0,none⟩))
 br:∃ c,w.heap[U.br]?=some (.cells c 4 (0,0))∧c.size=U.n∧∀ i,i < U.n→c[i]?=some (.bool (bv i))
 st:∀ i,i < U.n→w.heap[U.st i]?=some (.cells #[.pointer (some ⟨U.tu,0,none⟩),.chan (some (U.pass i)),.bool (ov i)] 306 (0,0))
 back:∃ k,w.heap[U.back]?=some (.chan 0 #[] false k k false)
 pass:∀ i,i < U.n→∃ k,w.heap[U.pass i]?=some (.chan 0 #[] false k k false)
structure Tun.K (U:Tun) (w:World):Prop where
 bx:w.cell? ⟨U.bx,0,none⟩=some (.pointer (some ⟨U.tu,0,none⟩))
 tu:w.cell? ⟨U.tu,0,none⟩=some (.chan (some U.back))
 st:∀ i,i < U.n→w.cell? ⟨U.st i,1,none⟩=some (.chan (some (U.pass i)))
 outs:w.os=U.outs.1∧w.output=U.outs.2
def Tun.Still (U:Tun) (l:Loc):Prop:=l = .cell ⟨U.bx,0,none⟩∨l = .cell ⟨U.tu,0,none⟩∨∃ i,i < U.n∧l = .cell ⟨U.st i,1,none⟩
open Classical in
noncomputable def Tun.D (U:Tun) (b:Nat):Option (Nat×Nat):=if b=U.bx∨b=U.tu then some (0,1) else if ∃ i,i < U.n∧b=U.st i then some (1,2) else none
def Tun.Inb (U:Tun) (j:Nat):Option Seat:=if j=0 then some (Seat.one U.back (.agg #[]) false fun _=>True) else if U.g0≤j∧j < U.g0+U.n then some (Seat.one (U.pass (j - U.g0)) (.bool false) false fun _=>True) else none
abbrev Tun.DX (U:Tun):=Ytofacoojpgkbiaa.DX U.K U.Still U.Inb
theorem zd3 {w:World} {b i:Nat} {c:Array Value} {e:TypeId} {f:Nat×Nat} (h:w.heap[b]?=some (.cells c e f)):w.cell? ⟨b,i,none⟩=c[i]?:=by
 unfold World.cell?
 simp [h]
section
variable {U:Tun} {ov bv:Nat→Bool} {w w':World}
theorem Tn.kbx (h:Tn U ov bv w):w.cell? ⟨U.bx,0,none⟩=some (.pointer (some ⟨U.tu,0,none⟩)):=by rw [zd3 h.bx];rfl
theorem Tn.k (h:Tn U ov bv w) (ho:w.os=U.outs.1∧w.output=U.outs.2):U.K w :=
 ⟨by rw [zd3 h.bx];rfl,by rw [zd3 h.tu];rfl,fun i hi=>by rw [zd3 (h.st i hi)];rfl,ho⟩
theorem Tn.of_heap (h:Tn U ov bv w) (e:w'.heap=w.heap):Tn U ov bv w':=by
 obtain ⟨a,b,c,d,f,g,i⟩:=h
 exact ⟨by rw [e];exact a,by rw [e];exact b,by rw [e];exact c,by rw [e];exact d,by rw [e];exact f,by rw [e];exact g,by rw [e];exact i⟩
theorem Tn.of_blk (h:Tn U ov bv w) (e:∀ b,U.blk b→w'.heap[b]?=w.heap[b]?):Tn U ov bv w':=by
 obtain ⟨a,b,c,d,f,g,i⟩:=h
 refine ⟨?_,?_,?_,?_,fun j hj => ?_,?_,fun j hj => ?_⟩
 ·
  rw [e _ (.inl rfl)];exact a
 ·
  rw [e _ (.inr (.inl rfl))];exact b
 ·
  rw [e _ (.inr (.inr (.inl rfl)))];exact c
 ·
  rw [e _ (.inr (.inr (.inr (.inl rfl))))];exact d
 ·
  rw [e _ (.inr (.inr (.inr (.inr (.inr ⟨j,hj,.inl rfl⟩)))))];exact f j hj
 ·
  rw [e _ (.inr (.inr (.inr (.inr (.inl rfl)))))];exact g
 ·
  rw [e _ (.inr (.inr (.inr (.inr (.inr ⟨j,hj,.inr rfl⟩)))))];exact i j hj
theorem Tn.lt (h:Tn U ov bv w) {b:Nat} (hb:U.blk b):b < w.heap.size:=by
 have q:∀ {b:Nat} {o:Obj},w.heap[b]?=some o→b < w.heap.size:=fun e=>(Array.getElem?_eq_some_iff.1 e).1
 rcases hb with rfl | rfl | rfl | rfl | rfl | ⟨i,hi,rfl | rfl⟩
 ·
  exact q h.bx
 ·
  exact q h.tu
 ·
  obtain ⟨c,e,hc,_⟩:=h.sl;exact q hc
 ·
  obtain ⟨c,hc,_⟩:=h.br;exact q hc
 ·
  obtain ⟨c,hc⟩:=h.back;exact q hc
 ·
  exact q (h.st i hi)
 ·
  obtain ⟨c,hc⟩:=h.pass i hi;exact q hc
theorem Tn.okd (h:Tn U ov bv w):Okd U.D w:=by
 intro b r hD
 unfold Tun.D at hD
 split at hD
 ·
  rename_i hb
  rcases hb with rfl | rfl
  ·
   exact ⟨_,_,h.bx⟩
  ·
   exact ⟨_,_,h.tu⟩
 ·
  split at hD
  ·
   rename_i hb
   obtain ⟨i,hi,rfl⟩:=hb
   exact ⟨_,_,h.st i hi⟩
  ·
   cases hD
theorem Tn.dbx (h:Tn U ov bv w):U.D U.bx=some (0,1):=by unfold Tun.D;rw [if_pos (.inl rfl)]
theorem Tn.dtu (h:Tn U ov bv w):U.D U.tu=some (0,1):=by unfold Tun.D;rw [if_pos (.inr rfl)]
theorem Tn.dst (h:Tn U ov bv w) {i:Nat} (hi:i < U.n):U.D (U.st i)=some (1,2):=by
 unfold Tun.D
 rw [if_neg,if_pos ⟨i,hi,rfl⟩]
 rintro (e | e)
 ·
  have:=h.st i hi
  rw [e,h.bx] at this
  simp at this
 ·
  have:=h.st i hi
  rw [e,h.tu] at this
  simp at this
theorem dnone {b:Nat} (hb:¬ U.blk b):U.D b=none:=by
 unfold Tun.D
 rw [if_neg,if_neg]
 ·
  rintro ⟨i,hi,rfl⟩
  exact hb (.inr (.inr (.inr (.inr (.inr ⟨i,hi,.inl rfl⟩)))))
 ·
  rintro (rfl | rfl)
  ·
   exact hb (.inl rfl)
  ·
   exact hb (.inr (.inl rfl))
theorem Tn.dcell (h:Tn U ov bv w) {b:Nat} {c:Array Value} {e:TypeId} {f:Nat×Nat} (hb:w.heap[b]?=some (.cells c e f)) (h1:e≠298) (h2:e≠302) (h3:e≠306):U.D b=none:=by
 unfold Tun.D
 rw [if_neg,if_neg]
 ·
  rintro ⟨i,hi,rfl⟩
  rw [h.st i hi] at hb
  simp only [Option.some.injEq,Obj.cells.injEq] at hb
  exact h3 hb.2.1.symm
 ·
  rintro (rfl | rfl)
  ·
   rw [h.bx] at hb
   simp only [Option.some.injEq,Obj.cells.injEq] at hb
   exact h1 hb.2.1.symm
  ·
   rw [h.tu] at hb
   simp only [Option.some.injEq,Obj.cells.injEq] at hb
   exact h2 hb.2.1.symm
theorem inb_has {j c:Nat} {s:Seat} (h:U.Inb j=some s) (hc:s.has c):(j=0∧c=U.back)∨(U.g0≤j∧j < U.g0+U.n∧c=U.pass (j - U.g0)):=by
 unfold Tun.Inb at h
 split at h
 ·
  cases h
  exact .inl ⟨by assumption,Seat.one_has.1 hc⟩
 ·
  split at h
  ·
   cases h
   rename_i q
   exact .inr ⟨q.1,q.2,Seat.one_has.1 hc⟩
  ·
   cases h
theorem Tn.seats (h:Tn U ov bv w):Seats U.D U.K U.Still U.Inb w:=by
 refine ⟨h.okd,fun w1 w2 hp hk=>⟨?_,?_,fun i hi => ?_,hp.outs.1.trans hk.outs.1,hp.outs.2.trans hk.outs.2⟩,fun l hl => ?_,fun j s c hj hc => ?_⟩
 ·
  rw [hp.cells U.bx (0,1) 0 h.dbx (by decide) (by decide)];exact hk.bx
 ·
  rw [hp.cells U.tu (0,1) 0 h.dtu (by decide) (by decide)];exact hk.tu
 ·
  rw [hp.cells (U.st i) (1,2) 1 (h.dst hi) (by decide) (by decide)];exact hk.st i hi
 ·
  rcases hl with rfl | rfl | ⟨i,hi,rfl⟩
  ·
   exact ⟨U.bx,(0,1),0,none,h.dbx,by decide,by decide,rfl⟩
  ·
   exact ⟨U.tu,(0,1),0,none,h.dtu,by decide,by decide,rfl⟩
  ·
   exact ⟨U.st i,(1,2),1,none,h.dst hi,by decide,by decide,rfl⟩
 ·
  rcases inb_has hj hc with ⟨_,rfl⟩ | ⟨h1,h2,rfl⟩
  ·
   obtain ⟨k,hk⟩:=h.back;exact ⟨_,_,_,_,_,_,hk⟩
  ·
   obtain ⟨k,hk⟩:=h.pass (j - U.g0) (by omega);exact ⟨_,_,_,_,_,_,hk⟩
theorem zba {D:Nat→Option (Nat×Nat)} {w wp:World} {b:Nat} (hs:Sim wp (poi D w)) (hb:D b=none):wp.heap[b]?=w.heap[b]?:=by
 rw [hs.heap,zb5]
 cases w.heap[b]? with
 | none=>rfl
 | some o=>simp only [Option.map_some,zcx,hb]
theorem poi_at' {D:Nat→Option (Nat×Nat)} {w wp:World} {b:Nat} {r:Nat×Nat} {c:Array Value} {e:TypeId} {f:Nat×Nat} (hs:Sim wp (poi D w)) (hb:D b=some r) (h:w.heap[b]?=some (.cells c e f)):wp.heap[b]?=some (.cells c e r):=by
 rw [hs.heap,zb5,h]
 simp only [Option.map_some,zcx,hb]
end
inductive Co (M:Type):Type where
 | fin:Co M
 | cut:Co M
 | step (next:M→M) (more:M→Co M):Co M
def Co.isFin {M:Type}:Co M→Bool
 | .fin=>true
 | .cut=>false
 | .step ..=>false
abbrev Fu (M:Type):=M→M×Co M
def zbn {M:Type} (κ:Fu M):Fu M:=fun m=>(m,.step (fun m=>(κ m).1) (fun m=>(κ m).2))
def cutF {M:Type}:Fu M:=fun m=>(m,.cut)
def Deep {M:Type}:Nat→Co M→Prop
 | _,.fin=>True
 | 0,_=>True
 | _+1,.cut=>False
 | d+1,.step _ mo=>∀ m,Deep d (mo m)
theorem Deep.zero {M:Type} (c:Co M):Deep 0 c:=by cases c<;>trivial
theorem Deep.less {M:Type}:∀ {d:Nat} {c:Co M},Deep (d+1) c→Deep d c
 | 0,c,_=>Deep.zero c
 | d+1,.fin,_=>trivial
 | d+1,.cut,h=>h.elim
 | d+1,.step nx mo,h=>fun m=>Deep.less (h m)
theorem Deep.le {M:Type} {d e:Nat} {c:Co M} (h:Deep e c) (hd:d≤e):Deep d c:=by
 induction hd with
 | refl=>exact h
 | step _ ih=>exact ih h.less
def OwnStep (i:Nat) (own own':Nat→Owner) (size:Nat):Prop:=∀ b,own' b=own b∨((size≤b∨own b = .th i∨own b = .sh)∧(own' b = .th i∨(own' b).pub))
def Frm (i:Nat) (own:Nat→Owner) (w w':World):Prop:=w.heap.size≤w'.heap.size∧∀ b,b < w.heap.size→own b ≠ .th i→own b ≠ .sh→own b ≠ .tun→w'.heap[b]?=w.heap[b]?
theorem OwnStep.refl {i:Nat} {own:Nat→Owner} {n:Nat}:OwnStep i own own n:=fun _ => .inl rfl
theorem OwnStep.trans {i:Nat} {o1 o2 o3:Nat→Owner} {n m:Nat} (h1:OwnStep i o1 o2 n) (h2:OwnStep i o2 o3 m) (hnm:n≤m):OwnStep i o1 o3 n:=by
 intro b
 rcases h1 b with e1 | ⟨e1,e1'⟩<;>rcases h2 b with e2 | ⟨e2,e2'⟩
 ·
  exact .inl (e2.trans e1)
 ·
  refine .inr ⟨?_,e2'⟩
  rw [e1] at e2
  exact e2.imp (fun x=>by omega) id
 ·
  exact .inr ⟨e1,by rw [e2];exact e1'⟩
 ·
  exact .inr ⟨e1,e2'⟩
theorem OwnStep.other {i:Nat} {own own':Nat→Owner} {n b:Nat} (h:OwnStep i own own' n) (hb:b < n) (h1:own b ≠ .th i) (h2:own b ≠ .sh):own' b=own b:=by
 rcases h b with e | ⟨e | e | e,_⟩
 ·
  exact e
 ·
  omega
 ·
  exact absurd e h1
 ·
  exact absurd e h2
theorem Frm.refl {i:Nat} {own:Nat→Owner} {w:World}:Frm i own w w:=⟨Nat.le_refl _,fun _ _ _ _ _=>rfl⟩
theorem Frm.trans {i:Nat} {o1 o2:Nat→Owner} {w1 w2 w3:World} (h:OwnStep i o1 o2 w1.heap.size) (h1:Frm i o1 w1 w2) (h2:Frm i o2 w2 w3):Frm i o1 w1 w3 :=
 ⟨Nat.le_trans h1.1 h2.1,fun b hb e1 e2 e3=>by
  have e:=h.other hb e1 e2
  rw [h2.2 b (Nat.lt_of_lt_of_le hb h1.1) (by rw [e];exact e1) (by rw [e];exact e2) (by rw [e];exact e3),h1.2 b hb e1 e2 e3]⟩
class Priv (M:Type) where
 T:Type
 get:Nat→M→T
structure W0 (M:Type) where
 heap:Array Obj
 m:M
 own:Nat→Owner
def Tg {M:Type} (w₀:W0 M) (own:Nat→Owner) (w:World):Prop:=∀ b v,w₀.own b = .tag v→own b = .tag v∧w.heap[b]?=w₀.heap[b]?
theorem Tg.refl {M:Type} {own:Nat→Owner} {w:World} {m:M}:Tg ⟨w.heap,m,own⟩ own w:=fun _ _ h=>⟨h,rfl⟩
def CoPriv {M:Type} [Priv M] (i:Nat):Co M→Prop
 | .fin=>True
 | .cut=>True
 | .step nx mo=>(∀ m j,j≠i→Priv.get j (nx m)=Priv.get j m)∧∀ m,CoPriv i (mo m)
def zb8 {M:Type} [Priv M] (i:Nat) (φ:Fu M):Prop:=∀ m,(∀ j,j≠i→Priv.get j (φ m).1=Priv.get j m)∧CoPriv i (φ m).2
abbrev zc2 {M:Type} (Rep:M→(Nat→Owner)→World→Prop):Prop:=∀ m own own' w w',Rep m own w→Kept own own' w w'→Rep m own' w'
section
variable {M:Type} [Priv M] (Rep:M→(Nat→Owner)→World→Prop) (P:Program) (U:Tun)
structure Ctx (i:Nat) (own:Nat→Owner) (A:Nat→Prop) (w₀:W0 M) (w:World) (m:M) (ov bv:Nat→Bool):Prop where
 lt:i < U.n
 wf:U.Wf
 tn:Tn U ov bv w
 tun:∀ b,U.blk b→own b = .tun
 rep:Rep m own w
 fresh:∀ b,w.heap.size≤b→own b = .out
 mine:∀ b,A b→own b = .th i∧w.heap[b]?=w₀.heap[b]?
 bf:bv i=false
 pv:Priv.get i m=Priv.get i w₀.m
 tg:Tg w₀ own w
def AtSend (main:Bool) (c:Nat) (Aft:Goroutine→Prop) (g:Goroutine) (w:World):Prop :=
 g.status = .running∧∃ g₂ v z',(∀ d,stepG P main g (w.at d) = .comm g₂ #[scase c v z'] true .send (w.at d) #[])∧Aft (Go.Conc.served g₂ undef)
def OnWay (main:Bool) (s:Seat) (g:Goroutine):Prop:=∃ k w B0,∀ B,B0≤B→Goes P main (RK U.K) (DS U.Still B) (fun g _=>∃ g₂,AtIn P main U.K U.Still B s g g₂) k g w
def Leaves (g:Goroutine):Prop:=∃ n,QuitsD P n 0 g
def seatOf (i:Nat) (home:Goroutine→Prop):Seat:=Seat.one (U.pass i) (.bool false) false home
def ThOut (i:Nat) (own:Nat→Owner) (w:World) (m':M) (fin:Bool) (hm:(Nat→Prop)→W0 M→Goroutine→Prop) (ov bv:Nat→Bool) (g':Goroutine) (w':World):Prop :=
 ∃ own' A',AtSend P false U.back (fun a=>if fin then Leaves P a else OnWay P U false (seatOf U i fun g₂=>hm A' ⟨w'.heap,m',own'⟩ g₂) a) g' w' ∧
  Ctx Rep U i own' A' ⟨w'.heap,m',own'⟩ w' m' (if fin then upd ov i true else ov) (if fin then upd bv i false else bv)∧OwnStep i own own' w.heap.size∧Frm i own w w'
def TH (i:Nat):Co M→(Nat→Prop)→W0 M→Goroutine→Prop
 | .fin,_,_,_=>False
 | .cut,A,w₀,g₂=>∀ w m own ov bv,Ctx Rep U i own A w₀ w m ov bv→Fut P false U.DX (ThOut Rep P U i own w m true (fun _ _ _=>False) ov bv) (Go.Conc.served g₂ (.bool false)) w
 | .step nx mo,A,w₀,g₂ =>
  (∀ w m own ov bv,Ctx Rep U i own A w₀ w m ov bv→Fut P false U.DX (ThOut Rep P U i own w (nx m) (mo m).isFin (TH i (mo m)) ov bv) (Go.Conc.served g₂ (.bool true)) w) ∧
  (∀ w m own ov bv,Ctx Rep U i own A w₀ w m ov bv→Fut P false U.DX (ThOut Rep P U i own w m true (fun _ _ _=>False) ov bv) (Go.Conc.served g₂ (.bool false)) w)
def GOF (i:Nat) (φ:Fu M) (A:Nat→Prop) (w₀:W0 M) (g:Goroutine):Prop :=
 ∀ w m own ov bv,Ctx Rep U i own A w₀ w m ov bv→Fut P false U.DX (ThOut Rep P U i own w (φ m).1 (φ m).2.isFin (TH Rep P U i (φ m).2) ov bv) g w
abbrev Ended (i:Nat) (A:Nat→Prop) (w₀:W0 M) (g:Goroutine):Prop:=GOF Rep P U i (fun m=>(m,.fin)) A w₀ g
def TGO (i:Nat) (own:Nat→Owner) (w:World) (mc:M×Co M) (ov bv:Nat→Bool) (g:Goroutine) (w':World):Prop :=
 ∀ d,Fut P false U.DX (ThOut Rep P U i own w mc.1 mc.2.isFin (TH Rep P U i mc.2) ov bv) g (w'.at d)
end
section
variable {M:Type} [Priv M] {Rep:M→(Nat→Owner)→World→Prop} {P:Program} {U:Tun} {i:Nat} {own own':Nat→Owner} {A A':Nat→Prop} {w₀:W0 M} {w w':World} {m m':M} {ov bv:Nat→Bool}
theorem th_step {κ:Fu M} {g₂:Goroutine} (h1:GOF Rep P U i κ A w₀ (Go.Conc.served g₂ (.bool true))) (h2:Ended Rep P U i A w₀ (Go.Conc.served g₂ (.bool false))):TH Rep P U i (.step (fun m=>(κ m).1) (fun m=>(κ m).2)) A w₀ g₂:=⟨h1,h2⟩
theorem th_cut {g₂:Goroutine} (h2:Ended Rep P U i A w₀ (Go.Conc.served g₂ (.bool false))):TH Rep P U i .cut A w₀ g₂:=h2
theorem ThOut.trans {fin:Bool} {hm:(Nat→Prop)→W0 M→Goroutine→Prop} {g':Goroutine} {w1:World} (h1:OwnStep i own own' w.heap.size) (h2:Frm i own w w1) (h:ThOut Rep P U i own' w1 m' fin hm ov bv g' w'):ThOut Rep P U i own w m' fin hm ov bv g' w':=by
 obtain ⟨o,a,q1,q2,q3,q4⟩:=h
 exact ⟨o,a,q1,q2,h1.trans q3 h2.1,h1 |> fun h=>h2.trans h q4⟩
theorem Ctx.lt' (C:Ctx Rep U i own A w₀ w m ov bv) {b:Nat} (hb:own b ≠ .out):b < w.heap.size:=by
 rcases Nat.lt_or_ge b w.heap.size with h | h
 ·
  exact h
 ·
  exact absurd (C.fresh b h) hb
theorem Ctx.dmine (C:Ctx Rep U i own A w₀ w m ov bv) {b:Nat} (hb:own b ≠ .tun):U.D b=none:=dnone fun h=>hb (C.tun b h)
theorem Ctx.seats (C:Ctx Rep U i own A w₀ w m ov bv):Seats U.D U.K U.Still U.Inb w:=C.tn.seats
theorem Ctx.re (hloc:∀ m own own' w w',Rep m own w→Kept own own' w w'→Rep m own' w') (C:Ctx Rep U i own A w₀ w m ov bv) (e:w'.heap=w.heap):Ctx Rep U i own A w₀ w' m ov bv :=
 ⟨C.lt,C.wf,C.tn.of_heap e,C.tun,hloc _ _ _ _ _ C.rep (zcs fun b hb=>by rw [e]),fun b hb=>C.fresh b (by rwa [e] at hb),fun b hb=>⟨(C.mine b hb).1,by rw [e];exact (C.mine b hb).2⟩,C.bf,C.pv,fun b v h=>⟨(C.tg b v h).1,by rw [e];exact (C.tg b v h).2⟩⟩
theorem Ctx.less (C:Ctx Rep U i own A w₀ w m ov bv) {w₁:W0 M} (h:∀ b,A' b→A b∧w₀.heap[b]?=w₁.heap[b]?) (hp:Priv.get i w₀.m=Priv.get i w₁.m) (ht:∀ b v,w₁.own b = .tag v→w₀.own b = .tag v∧w₀.heap[b]?=w₁.heap[b]?):Ctx Rep U i own A' w₁ w m ov bv :=
 ⟨C.lt,C.wf,C.tn,C.tun,C.rep,C.fresh,fun b hb=>⟨(C.mine b (h b hb).1).1,(C.mine b (h b hb).1).2.trans (h b hb).2⟩,C.bf,C.pv.trans hp,fun b v q=>⟨(C.tg b v (ht b v q).1).1,(C.tg b v (ht b v q).1).2.trans (ht b v q).2⟩⟩
theorem GOF.more {φ:Fu M} {g:Goroutine} {w₁:W0 M} (h:GOF Rep P U i φ A' w₁ g) (hA:∀ b,A' b→A b∧w₀.heap[b]?=w₁.heap[b]?) (hp:Priv.get i w₀.m=Priv.get i w₁.m) (ht:∀ b v,w₁.own b = .tag v→w₀.own b = .tag v∧w₀.heap[b]?=w₁.heap[b]?):GOF Rep P U i φ A w₀ g :=
 fun w m own ov bv C=>h w m own ov bv (C.less hA hp ht)
theorem fgo_xc {P:Program} {main:Bool} {K:World→Prop} {Still:Loc→Prop} {Inb:Nat→Option Seat} (S:Goroutine→World→Prop):XC P main K Still Inb fun g w=>∀ d,Fut P main (DX K Still Inb) S g (w.at d):=by
 refine ⟨fun g w h d => ?_,fun g w d h d'=>h d'⟩
 refine (Fut.at (fun g w d h=>(h:∀ d,Fut P main (DX K Still Inb) S g (w.at d))) h d).bind fun g' w' hg => ?_
 exact hg w'.drawn
theorem zc3 {mc:M×Co M}:XC P false U.K U.Still U.Inb (TGO Rep P U i own w mc ov bv):=fgo_xc _
theorem gof_of {φ:Fu M} {g:Goroutine} (h:∀ w m own ov bv,Ctx Rep U i own A w₀ w m ov bv→TGO Rep P U i own w (φ m) ov bv g w):GOF Rep P U i φ A w₀ g :=
 fun w m own ov bv C=>h w m own ov bv C w.drawn
theorem zep (hloc:∀ m own own' w w',Rep m own w→Kept own own' w w'→Rep m own' w') {φ:Fu M} {g:Goroutine} {w1:World} {w₁:W0 M} {m1:M} (h:GOF Rep P U i φ A w₁ g) (C1:Ctx Rep U i own' A w₁ w1 m1 ov bv) (h1:OwnStep i own own' w.heap.size) (h2:Frm i own w w1):TGO Rep P U i own w (φ m1) ov bv g w1 :=
 fun d=>(h (w1.at d) m1 own' ov bv (C1.re hloc rfl)).mono fun g' w' hT=>hT.trans (own:=own) (own':=own') (w:=w) h1 h2
end
end Go.Proofs.Ytofacoojpgkbiaa
