/-
  A part of a proof. No condition of its own.
-/
import Derived.Test.YtofacoojpgkbiaaCBxPZ
import Derived.Conc.TokenAlone
import Derived.Conc.Script
set_option linter.unusedVariables false
set_option maxHeartbeats 8000000
set_option linter.unusedSimpArgs false
namespace Go.Proofs.Ytofacoojpgkbiaa
open Go.Conc
open Go.ConcN (sumTo)
def EvX (Still:Loc→Prop) (e:Event):Prop:=(∀ x,(MemAct.ofEvent e).touch?=some x→Still x.loc→x.write=false)∧e.loc ≠ .mark .disable∧e.loc ≠ .mark .enable
structure DX (K:World→Prop) (Still:Loc→Prop) (Inb:Nat→Option Seat) (w w':World) (es:Array Event):Prop where
 keep:K w→K w'
 chans:∀ i s c,Inb i=some s→s.has c→w'.heap[c]?=w.heap[c]?
 evs:∀ e∈es,EvX Still e
inductive Fut (P:Program) (main:Bool) (D:World→World→Array Event→Prop) (Stop:Goroutine→World→Prop):Goroutine→World→Prop
 | stop {g:Goroutine} {w:World} (h:Stop g w):Fut P main D Stop g w
 | step {g:Goroutine} {w:World} (hs:g.status = .running) (nx:Nat→Goroutine) (wx:Nat→World) (ex:Nat→Array Event) (h1:∀ d,stepG P main g (w.at d) = .go (nx d) (wx d) (ex d)) (h2:∀ d,D (w.at d) (wx d) (ex d)) (h3:∀ d,Fut P main D Stop (nx d) (wx d)):Fut P main D Stop g w
section
variable {P:Program} {main:Bool} {D:World→World→Array Event→Prop} {Stop Stop':Goroutine→World→Prop} {g:Goroutine} {w:World}
theorem Fut.step' (hs:g.status = .running) (h:∀ d,∃ g' w' es,stepG P main g (w.at d) = .go g' w' es∧D (w.at d) w' es∧Fut P main D Stop g' w'):Fut P main D Stop g w :=
 .step hs (fun d=>(h d).choose) (fun d=>(h d).choose_spec.choose) (fun d=>(h d).choose_spec.choose_spec.choose) (fun d=>(h d).choose_spec.choose_spec.choose_spec.1) (fun d=>(h d).choose_spec.choose_spec.choose_spec.2.1) (fun d=>(h d).choose_spec.choose_spec.choose_spec.2.2)
theorem Fut.go (hs:g.status = .running) (h:∀ d,(stepG P main g (w.at d)).goes fun g' w' es=>D (w.at d) w' es∧Fut P main D Stop g' w'):Fut P main D Stop g w :=
 .step' hs fun d=>by
  obtain ⟨g',w',es,h1,h2,h3⟩:=goes_elim (h d);exact ⟨g',w',es,h1,h2,h3⟩
theorem Fut.bind (h:Fut P main D Stop g w) (hk:∀ g w,Stop g w→Fut P main D Stop' g w):Fut P main D Stop' g w:=by
 induction h with
 | stop h=>exact hk _ _ h
 | step hs nx wx ex h1 h2 _ ih=>exact .step hs nx wx ex h1 h2 ih
theorem Fut.mono (h:Fut P main D Stop g w) (hk:∀ g w,Stop g w→Stop' g w):Fut P main D Stop' g w:=h.bind fun g w x => .stop (hk g w x)
theorem Fut.at (hS:∀ g w d,Stop g w→Stop g (w.at d)) (h:Fut P main D Stop g w) (d:Nat):Fut P main D Stop g (w.at d):=by
 cases h with
 | stop h=>exact .stop (hS _ _ d h)
 | step hs nx wx ex h1 h2 h3=>exact .step hs nx wx ex h1 h2 h3
end
theorem zm4 {P:Program} {main:Bool} {R:World→World→Prop} {D D':World→World→Array Event→Prop} {Stop Stop':Goroutine→World→Prop} (hD:∀ w w' es,D w w' es→D' w w' es) (hS:∀ g w,Stop g w→Stop' g w) :
  ∀ {n:Nat} {g:Goroutine} {w:World},Goes P main R D Stop n g w→Goes P main R D' Stop' n g w
 | 0,g,w,h=>fun w₁ hr=>hS _ _ (h w₁ hr)
 | n+1,g,w,h=>by
  rcases h with h|⟨hs,h⟩
  ·exact .inl fun w₁ hr=>hS _ _ (h w₁ hr)
  ·refine .inr ⟨hs,fun w₁ hr=>?_⟩;obtain ⟨g',w',es,he,hd,hg⟩:=goes_elim (h w₁ hr);rw [he];exact ⟨hD _ _ _ hd,zm4 hD hS hg⟩
section
variable {P:Program} {K:World→Prop} {Still:Loc→Prop} {B B':Nat} {Mem:Nat→Prop} {Inb:Nat→Option Seat} {h:Nat} {T:Trace} {gs:Array Goroutine} {w:World} {q:Nat→Nat}
theorem zpt (hB:B≤B') {e:Event} (h:EvC Still B e):EvC Still B' e:=by
 obtain ⟨a,h1,h2,h3⟩:=h;exact ⟨a,h1,h2,by omega⟩
theorem znd (hB:B≤B') {main:Bool} {s:Seat} {g g₂:Goroutine} (h:AtIn P main K Still B s g g₂):AtIn P main K Still B' s g g₂:=by
 obtain ⟨h1,h2,h3,h4,h5,es,h6,h7⟩:=h;exact ⟨h1,h2,h3,h4,h5,es,fun e he=>zpt hB (h6 e he),h7⟩
theorem zrx (hB:B≤B') {main:Bool} {s:Seat} {n:Nat} {g:Goroutine} (h:Sits P main K Still B s n g):Sits P main K Still B' s n g:=by
 rcases h with ⟨k,w,h1,h2⟩|⟨h1,g₀,g₂,h2,h3⟩
 ·exact .inl ⟨k,w,h1,zm4 (fun w w' es hd=>⟨hd.1,fun e he=>zpt hB (hd.2 e he)⟩) (fun g w ⟨g₂,hx⟩=>⟨g₂,znd hB hx⟩) h2⟩
 ·exact .inr ⟨h1,g₀,g₂,h2,znd hB h3⟩
theorem zsq (hB:B≤B') {i n:Nat} {g:Goroutine} {o:Option Seat} (h:Idle P K Still B T i n g o):Idle P K Still B' T i n g o:=by
 cases o with
 | none=>exact h
 | some s=>exact zrx hB h
theorem zfa (C:Ring P K Still B Mem Inb h T gs w q) (hB:B≤B'):Ring P K Still B' Mem Inb h T gs w q :=
 C.mono hB fun i g hi hg=>zsq hB (C.idle i g hi hg)
theorem zuy (e:Event):∃ B,∀ B',B≤B'→(MemAct.ofEvent e).low B':=by
 cases hx:MemAct.ofEvent e with
 | access x =>
  obtain ⟨l,a,b⟩:=x;cases l with
  | cell a=>exact ⟨a.block+1,fun B' hB=>by show a.block < B';omega⟩
  | obj r=>exact ⟨r+1,fun B' hB=>by show r < B';omega⟩
  | _=>exact ⟨0,fun _ _=>trivial⟩
 | mark m =>
  cases m with
  | acquire a=>exact ⟨a.block+1,fun B' hB=>by show a.block < B';omega⟩
  | release a=>exact ⟨a.block+1,fun B' hB=>by show a.block < B';omega⟩
  | releaseMerge a=>exact ⟨a.block+1,fun B' hB=>by show a.block < B';omega⟩
  | read a=>exact ⟨a.block+1,fun B' hB=>by show a.block < B';omega⟩
  | write a=>exact ⟨a.block+1,fun B' hB=>by show a.block < B';omega⟩
  | _=>exact ⟨0,fun _ _=>trivial⟩
 | go _|start=>exact ⟨0,fun _ _=>trivial⟩
 | send c _|sendDone c _|recv c _ _|recvDone c _|close c|recvClosed c=>exact ⟨c+1,fun B' hB=>by show c < B';omega⟩
theorem zsk (es:Array Event):∃ B,∀ B',B≤B'→∀ e∈es,(MemAct.ofEvent e).low B':=by
 obtain ⟨l⟩:=es
 induction l with
 | nil=>exact ⟨0,fun _ _ e he=>by simp at he⟩
 | cons e l ih =>
  obtain ⟨B1,h1⟩:=zuy e;obtain ⟨B2,h2⟩:=ih;refine ⟨max B1 B2,fun B' hB x hx=>?_⟩;simp only [List.mem_toArray,List.mem_cons] at hx;rcases hx with rfl|hx
  ·exact h1 B' (by omega)
  ·exact h2 B' (by omega) x (by simpa using hx)
end
end Go.Proofs.Ytofacoojpgkbiaa
namespace Go.Proofs.Ytofacoojpgkbiaa
open Go.Conc
def zvu:Halt→Prop
 | .panic _ | .stuck _ | .unsupported _=>True
 | _=>False
def zid (P:Program) {α:Type}:Sem α→Prop
 | .pure _=>False
 | .load _ _ k=>∀ v,zid P (k v)
 | .store _ _ _ k=>zid P k
 | .new _ k=>∀ r,zid P (k r)
 | .shape _ k=>∀ s,zid P (k s)
 | .freeze _ _ k=>zid P k
 | .frozen _ k=>∀ b,zid P (k b)
 | .getObj _ k=>∀ o,zid P (k o)
 | .setObj _ _ k=>zid P k
 | .choose _ k=>∀ n,zid P (k n)
 | .sys _ _=>False
 | .program k=>zid P (k P)
 | .mark _ k=>zid P k
 | .halt h=>∀ v,h ≠ .panic v
def zds (z:Bool) (P:Program) {α:Type} (V:α→Prop):Sem α→Prop
 | .pure a=>V a
 | .load _ _ k=>∀ v,zds z P V (k v)
 | .store _ _ _ k=>zds z P V k
 | .new _ k=>∀ r,zds z P V (k r)
 | .shape _ k=>∀ s,zds z P V (k s)
 | .freeze _ _ k=>z=false∧zds z P V k
 | .frozen _ k=>(z=false∨∀ b,zid P (k b))∧∀ b,zds z P V (k b)
 | .getObj _ k=>∀ o,zds z P V (k o)
 | .setObj _ _ k=>z=false∧zds z P V k
 | .choose _ k=>∀ n,zds z P V (k n)
 | .sys _ _=>False
 | .program k=>zds z P V (k P)
 | .mark m k=>(m ≠ .disable∧m ≠ .enable∧∀ a,m ≠ .write a)∧zds z P V k
 | .halt h=>zvu h
def evF (e:Event):Prop:=e.loc ≠ .mark .disable∧e.loc ≠ .mark .enable∧∀ a,e.loc ≠ .mark (.write a)
def re (τ:Nat→Question→Nat) (d:Nat) (w:World):World:={ w with tape:=τ,drawn:=d }
def rw' {α:Type}:Result α→World
 | .ok _ w=>w
 | .halt _ w=>w
def reR {α:Type} (τ:Nat→Question→Nat) (d:Nat):Result α→Result α
 | .ok a w => .ok a (re τ d w)
 | .halt h w => .halt h (re τ d w)
theorem zkd {P:Program} {α:Type} (m:Mode) (a:Addr) (v:Value) (k:Sem α) :
  (∀ w es,(Sem.store m a v k).runT P w es=(.halt (.stuck "store: not the value of one cell") w,es))∨(∀ w es,(Sem.store m a v k).runT P w es=(match w.cell? a with
   | some _=>if w.frozen? a then (.halt (.unsupported (.unsafePointer "a write to bytes that a string shares")) w,es) else k.runT P (w.setCell a v) (es.push ⟨.cell a,true,m == .atomic⟩)
   | none=>match w.farStore P a v (m == .atomic) with
    | .ok (w,touched)=>k.runT P w (es++touched.toArray.map (⟨.cell ·,true,m == .atomic⟩))
    | .error h=>(.halt h w,es))):=by
 cases v<;>first|exact .inl (fun _ _=>rfl)|exact .inr (fun _ _=>rfl)
theorem zdk {P:Program} {α:Type} (m:Mode) (a:Addr) (v:Value) (k:Sem α) (w:World) (es:Array Event) :
  (∃ why,(Sem.store m a v k).runT P w es=(.halt (.stuck why) w,es))∨(∃ u x,w.cell? a=some x∧w.frozen? a=true∧(Sem.store m a v k).runT P w es=(.halt (.unsupported u) w,es)) ∨
  (∃ x,w.cell? a=some x∧w.frozen? a=false∧(Sem.store m a v k).runT P w es=k.runT P (w.setCell a v) (es.push ⟨.cell a,true,m == .atomic⟩)) ∨
  (∃ w' t,w.cell? a=none∧w.farStore P a v (m == .atomic) = .ok (w',t)∧(Sem.store m a v k).runT P w es=k.runT P w' (es++t.toArray.map (⟨.cell ·,true,m == .atomic⟩))) ∨
  (∃ h,w.cell? a=none∧w.farStore P a v (m == .atomic) = .error h∧(Sem.store m a v k).runT P w es=(.halt h w,es)):=by
 have plain:(Sem.store m a v k).runT P w es=(match w.cell? a with
   | some _=>if w.frozen? a then (.halt (.unsupported (.unsafePointer "a write to bytes that a string shares")) w,es) else k.runT P (w.setCell a v) (es.push ⟨.cell a,true,m == .atomic⟩)
   | none=>match w.farStore P a v (m == .atomic) with
    | .ok (w,touched)=>k.runT P w (es++touched.toArray.map (⟨.cell ·,true,m == .atomic⟩))
    | .error h=>(.halt h w,es))∨∃ why,(Sem.store m a v k).runT P w es=(.halt (.stuck why) w,es):=by
  cases v<;>first|exact .inr ⟨_,rfl⟩|exact .inl rfl
 rcases plain with plain|h
 ·cases hc:w.cell? a with
  | some x =>
   rw [hc] at plain;simp only at plain;cases hf:w.frozen? a with
   | true=>rw [hf] at plain;exact .inr (.inl ⟨_,x,rfl,rfl,plain⟩)
   | false=>rw [hf] at plain;exact .inr (.inr (.inl ⟨x,rfl,rfl,plain⟩))
  | none =>
   rw [hc] at plain;simp only at plain;cases hf:w.farStore P a v (m == .atomic) with
   | ok r =>
    obtain ⟨w',t⟩:=r;rw [hf] at plain;exact .inr (.inr (.inr (.inl ⟨w',t,rfl,rfl,plain⟩)))
   | error h=>rw [hf] at plain;exact .inr (.inr (.inr (.inr ⟨h,rfl,rfl,plain⟩)))
 ·exact .inl h
section
variable {z:Bool} {P:Program} {α β:Type} {V:α→Prop} {U:β→Prop}
theorem zcc {f:α→Sem β}:∀ {s:Sem α},zid P s→zid P (s.bind f)
 | .pure a,h=>h.elim
 | .load _ _ k,h=>fun v=>zcc (h v)
 | .store _ _ _ k,h=>zcc (s:=k) h
 | .new _ k,h=>fun v=>zcc (h v)
 | .shape _ k,h=>fun v=>zcc (h v)
 | .freeze _ _ k,h=>zcc (s:=k) h
 | .frozen _ k,h=>fun v=>zcc (h v)
 | .getObj _ k,h=>fun v=>zcc (h v)
 | .setObj _ _ k,h=>zcc (s:=k) h
 | .choose _ k,h=>fun v=>zcc (h v)
 | .sys _ _,h=>h.elim
 | .program k,h=>zcc (s:=k P) h
 | .mark _ k,h=>zcc (s:=k) h
 | .halt _,h=>h
theorem zbn {f:α→Sem β} (hf:∀ a,V a→zds z P U (f a)):∀ {s:Sem α},zds z P V s→zds z P U (s.bind f)
 | .pure a,h=>hf a h
 | .load _ _ k,h=>fun v=>zbn hf (h v)
 | .store _ _ _ k,h=>zbn (s:=k) hf h
 | .new _ k,h=>fun v=>zbn hf (h v)
 | .shape _ k,h=>fun v=>zbn hf (h v)
 | .freeze _ _ k,h=>⟨h.1,zbn (s:=k) hf h.2⟩
 | .frozen _ k,h=>⟨h.1.imp id (fun x b=>zcc (x b)),fun v=>zbn hf (h.2 v)⟩
 | .getObj _ k,h=>fun v=>zbn hf (h v)
 | .setObj _ _ k,h=>⟨h.1,zbn (s:=k) hf h.2⟩
 | .choose _ k,h=>fun v=>zbn hf (h v)
 | .sys _ _,h=>h.elim
 | .program k,h=>zbn (s:=k P) hf h
 | .mark _ k,h=>⟨h.1,zbn (s:=k) hf h.2⟩
 | .halt _,h=>h
theorem zb2 {V':α→Prop} (hv:∀ a,V a→V' a):∀ {s:Sem α},zds z P V s→zds z P V' s
 | .pure a,h=>hv a h
 | .load _ _ k,h=>fun v=>zb2 hv (h v)
 | .store _ _ _ k,h=>zb2 (s:=k) hv h
 | .new _ k,h=>fun v=>zb2 hv (h v)
 | .shape _ k,h=>fun v=>zb2 hv (h v)
 | .freeze _ _ k,h=>⟨h.1,zb2 (s:=k) hv h.2⟩
 | .frozen _ k,h=>⟨h.1,fun v=>zb2 hv (h.2 v)⟩
 | .getObj _ k,h=>fun v=>zb2 hv (h v)
 | .setObj _ _ k,h=>⟨h.1,zb2 (s:=k) hv h.2⟩
 | .choose _ k,h=>fun v=>zb2 hv (h v)
 | .sys _ _,h=>h.elim
 | .program k,h=>zb2 (s:=k P) hv h
 | .mark _ k,h=>⟨h.1,zb2 (s:=k) hv h.2⟩
 | .halt _,h=>h
theorem zui (w:World) (a:Addr) (b:Bool) (h:Halt) (e:w.farLoad P a b = .error h):zvu h:=by
 unfold World.farLoad at e;split at e
 ·split at e
  ·cases e
  ·cases e;exact trivial
 ·cases e;unfold World.noCell;split<;>exact trivial
theorem zrw (w:World) (a:Addr) (v:Value) (b:Bool) (h:Halt) (e:w.farStore P a v b = .error h):zvu h:=by
 unfold World.farStore at e;split at e
 ·split at e
  ·cases e
  ·cases e;exact trivial
 ·cases e;unfold World.noCell;split<;>exact trivial
theorem zbq:∀ {s:Sem α},zds z P V s→∀ (w:World) (es:Array Event),(∀ a w',(s.runT P w es).1 = .ok a w'→V a)∧(∀ h w',(s.runT P w es).1 = .halt h w'→zvu h)
 | .pure a,h=>fun w es=>⟨fun b w' e=>by cases e;exact h,fun _ _ e=>by cases e⟩
 | .load m a k,h=>fun w es=>by
  unfold Sem.runT;split
  ·exact zbq (h _) _ _
  ·split
   ·exact zbq (h _) _ _
   ·rename_i he;exact ⟨fun _ _ e=>(by cases e),fun _ _ e=>by cases e;exact zui _ _ _ _ he⟩
 | .store m a v k,h=>fun w es=>by
  rcases zdk (P:=P) m a v k w es with ⟨_,e⟩|⟨_,_,_,_,e⟩|⟨_,_,_,e⟩|⟨w',t,_,_,e⟩|⟨x,_,hx,e⟩
  ·rw [e];exact ⟨fun _ _ e=>(by cases e),fun _ _ e=>by cases e;exact trivial⟩
  ·rw [e];exact ⟨fun _ _ e=>(by cases e),fun _ _ e=>by cases e;exact trivial⟩
  ·rw [e];exact zbq (s:=k) h _ _
  ·rw [e];exact zbq (s:=k) h _ _
  ·rw [e];exact ⟨fun _ _ e=>(by cases e),fun _ _ e=>by cases e;exact zrw _ _ _ _ _ hx⟩
 | .new _ k,h=>fun w es=>zbq (h _) _ _
 | .shape _ k,h=>fun w es=>zbq (h _) _ _
 | .freeze _ _ k,h=>fun w es=>zbq (s:=k) h.2 _ _
 | .frozen _ k,h=>fun w es=>zbq (h.2 _) _ _
 | .getObj r k,h=>fun w es=>by
  unfold Sem.runT;split
  ·exact ⟨fun _ _ e=>(by cases e),fun _ _ e=>by cases e;exact trivial⟩
  ·exact zbq (h _) _ _
  ·exact ⟨fun _ _ e=>(by cases e),fun _ _ e=>by cases e;exact trivial⟩
 | .setObj r o k,h=>fun w es=>by
  unfold Sem.runT;split
  ·exact ⟨fun _ _ e=>(by cases e),fun _ _ e=>by cases e;exact trivial⟩
  ·exact zbq (s:=k) h.2 _ _
  ·exact ⟨fun _ _ e=>(by cases e),fun _ _ e=>by cases e;exact trivial⟩
 | .choose q k,h=>fun w es=>by
  unfold Sem.runT;split
  ·exact zbq (h _) _ _
  ·exact zbq (h _) _ _
 | .sys _ _,h=>h.elim
 | .program k,h=>fun w es=>zbq (s:=k P) h _ _
 | .mark _ k,h=>fun w es=>zbq (s:=k) h.2 _ _
 | .halt x,h=>fun w es=>⟨fun _ _ e=>(by cases e),fun _ _ e=>by cases e;exact h⟩
theorem za5:∀ {s:Sem α},zds z P V s→∀ (w:World) (es:Array Event),(∀ e∈es,evF e)→∀ e∈(s.runT P w es).2,evF e
 | .pure a,h=>fun w es h0=>h0
 | .load m a k,h=>fun w es h0=>by
  unfold Sem.runT;split
  ·exact za5 (h _) _ _ (fun e he=>by
    rcases Array.mem_push.1 he with he|rfl
    ·exact h0 e he
    ·exact ⟨by simp,by simp,by simp⟩)
  ·split
   ·exact za5 (h _) _ _ (fun e he=>by
     rcases Array.mem_append.1 he with he|he
     ·exact h0 e he
     ·obtain ⟨x,_,rfl⟩:=Array.mem_map.1 he;exact ⟨by simp,by simp,by simp⟩)
   ·exact h0
 | .store m a v k,h=>fun w es h0=>by
  rcases zdk (P:=P) m a v k w es with ⟨_,e⟩|⟨_,_,_,_,e⟩|⟨_,_,_,e⟩|⟨w',t,_,_,e⟩|⟨x,_,hx,e⟩
  ·rw [e];exact h0
  ·rw [e];exact h0
  ·rw [e];exact za5 (s:=k) h _ _ (fun e he=>by
    rcases Array.mem_push.1 he with he|rfl
    ·exact h0 e he
    ·exact ⟨by simp,by simp,by simp⟩)
  ·rw [e];exact za5 (s:=k) h _ _ (fun e he=>by
    rcases Array.mem_append.1 he with he|he
    ·exact h0 e he
    ·obtain ⟨x,_,rfl⟩:=Array.mem_map.1 he;exact ⟨by simp,by simp,by simp⟩)
  ·rw [e];exact h0
 | .new _ k,h=>fun w es h0=>za5 (h _) _ _ h0
 | .shape _ k,h=>fun w es h0=>za5 (h _) _ _ h0
 | .freeze _ _ k,h=>fun w es h0=>za5 (s:=k) h.2 _ _ h0
 | .frozen _ k,h=>fun w es h0=>za5 (h.2 _) _ _ h0
 | .getObj r k,h=>fun w es h0=>by
  unfold Sem.runT;split
  ·exact h0
  ·exact za5 (h _) _ _ (fun e he=>by
    rcases Array.mem_push.1 he with he|rfl
    ·exact h0 e he
    ·exact ⟨by simp,by simp,by simp⟩)
  ·exact h0
 | .setObj r o k,h=>fun w es h0=>by
  unfold Sem.runT;split
  ·exact h0
  ·exact za5 (s:=k) h.2 _ _ (fun e he=>by
    rcases Array.mem_push.1 he with he|rfl
    ·exact h0 e he
    ·exact ⟨by simp,by simp,by simp⟩)
  ·exact h0
 | .choose q k,h=>fun w es h0=>by
  unfold Sem.runT;split
  ·exact za5 (h _) _ _ h0
  ·exact za5 (h _) _ _ h0
 | .sys _ _,h=>h.elim
 | .program k,h=>fun w es h0=>za5 (s:=k P) h _ _ h0
 | .mark m k,h=>fun w es h0=>za5 (s:=k) h.2 _ _ (fun e he=>by
   rcases Array.mem_push.1 he with he|rfl
   ·exact h0 e he
   ·exact ⟨fun x=>h.1.1 (by injection x),fun x=>h.1.2.1 (by injection x),fun a x=>h.1.2.2 a (by injection x)⟩)
 | .halt x,h=>fun w es h0=>h0
end
section
variable {z:Bool} {P:Program} {α:Type} {V:α→Prop} (τ:Nat→Question→Nat) (d:Nat) (w:World)
theorem zl5 (at_:Addr) (u:TypeId) (k:Addr) (v:Value) (b:Bool):(re τ d w).viewStore P at_ u k v b=(w.viewStore P at_ u k v b).map (fun x=>(re τ d x.1,x.2)):=by
 unfold World.viewStore;have hs:(re τ d w).seen P at_ u k b=w.seen P at_ u k b:=rfl;rw [hs];simp only [bind,Except.bind,pure,Except.pure]
 repeat' first
  | rfl
  | split
theorem zju (a:Addr) (v:Value) (b:Bool):(re τ d w).farStore P a v b=(w.farStore P a v b).map (fun x=>(re τ d x.1,x.2)):=by
 unfold World.farStore;show (match w.heap[a.block]? with
  | some (.view at_ u)=>(match (re τ d w).viewStore P at_ u a v b with
   | .ok r=>(Except.ok r:Except Halt (World×List Addr))
   | .error why=>Except.error (.unsupported (.unsafePointer why)))
  | _=>Except.error (w.noCell a "store: no such cell"))=_
 cases hb:w.heap[a.block]? with
 | none=>rfl
 | some o =>
  cases o with
  | view at_ u =>
   simp only;rw [zl5];cases w.viewStore P at_ u a v b<;>rfl
  | _=>rfl
theorem zsx (a:Addr) (n:Nat):(re τ d w).freeze a n=re τ d (w.freeze a n):=by
 unfold World.freeze;split<;>rfl
theorem zln {a:Addr} {v:Value} {b:Bool} {w':World} {t:List Addr} (h:w.farStore P a v b = .ok (w',t)):w'.tape=w.tape∧w'.drawn=w.drawn:=by
 have e:=zju (P:=P) w.tape w.drawn w a v b;have e2:re w.tape w.drawn w=w:=rfl;rw [e2,h] at e;simp only [Except.map] at e;injection e with e;have:=congrArg Prod.fst e;simp only at this;rw [this];exact ⟨rfl,rfl⟩
theorem zol (a:Addr) (n:Nat):(w.freeze a n).tape=w.tape∧(w.freeze a n).drawn=w.drawn:=by
 unfold World.freeze;split<;>exact ⟨rfl,rfl⟩
end
section
variable {z:Bool} {P:Program} {α:Type} {V:α→Prop}
theorem zb8:∀ {s:Sem α},zds z P V s→∀ (τ:Nat→Question→Nat) (w:World) (es:Array Event) (d:Nat),(∀ j,w.drawn+j < (rw' (s.runT P w es).1).drawn→τ (d+j)=w.tape (w.drawn+j)) →
  s.runT P (re τ d w) es=(reR τ (d+((rw' (s.runT P w es).1).drawn - w.drawn)) (s.runT P w es).1,(s.runT P w es).2)∧w.drawn≤(rw' (s.runT P w es).1).drawn∧(rw' (s.runT P w es).1).tape=w.tape
 | .pure a,h=>fun τ w es d ht=>⟨by simp [Sem.runT,reR,rw'],yax _,rfl⟩
 | .halt x,h=>fun τ w es d ht=>⟨by simp [Sem.runT,reR,rw'],yax _,rfl⟩
 | .load m a k,h=>fun τ w es d ht=>by
  simp only [Sem.runT] at ht ⊢;have e1:(re τ d w).cell? a=w.cell? a:=rfl;have e2:(re τ d w).farLoad P a (m == .atomic)=w.farLoad P a (m == .atomic):=rfl;rw [e1,e2];cases hc:w.cell? a with
  | some v=>rw [hc] at ht;exact zb8 (h v) τ w _ d ht
  | none =>
   rw [hc] at ht;cases hf:w.farLoad P a (m == .atomic) with
   | ok r=>obtain ⟨v,t⟩:=r;rw [hf] at ht;exact zb8 (h v) τ w _ d ht
   | error x=>exact ⟨by simp [reR,rw'],yax _,rfl⟩
 | .store m a v k,h=>fun τ w es d ht=>by
  rcases zkd (P:=P) m a v k with hb|hp
  ·rw [hb w es,hb (re τ d w) es];exact ⟨by simp [reR,rw'],yax _,rfl⟩
  ·rw [hp w es] at ht ⊢;rw [hp (re τ d w) es];have q1:(re τ d w).cell? a=w.cell? a:=rfl;have q2:(re τ d w).frozen? a=w.frozen? a:=rfl;rw [q1,q2,zju];cases hc:w.cell? a with
   | some x =>
    rw [hc] at ht;simp only at ht ⊢;cases hf:w.frozen? a with
    | true=>exact ⟨by simp [reR,rw'],yax _,rfl⟩
    | false =>
     rw [hf] at ht;exact zb8 (s:=k) h τ (w.setCell a v) _ d ht
   | none =>
    rw [hc] at ht;simp only at ht ⊢;cases hf:w.farStore P a v (m == .atomic) with
    | error x=>exact ⟨by simp [reR,rw',Except.map],yax _,rfl⟩
    | ok r =>
     obtain ⟨w',t⟩:=r;obtain ⟨t1,t2⟩:=zln w hf;rw [hf] at ht;simp only [Except.map] at ht ⊢;have:=zb8 (s:=k) h τ w' (es++t.toArray.map (⟨.cell ·,true,m == .atomic⟩)) d (by rw [t1,t2];exact ht);rw [t1,t2] at this;exact this
 | .new o k,h=>fun τ w es d ht=>zb8 (h _) τ { w with heap:=w.heap.push o } es d ht
 | .shape r k,h=>fun τ w es d ht=>zb8 (h _) τ w es d ht
 | .freeze a n k,h=>fun τ w es d ht=>by
  simp only [Sem.runT] at ht ⊢;rw [zsx];have hf:=zol w a n;have:=zb8 (s:=k) h.2 τ (w.freeze a n) es d (fun j hj=>by rw [hf.1,hf.2] at *;exact ht j hj);rw [hf.1,hf.2] at this;exact this
 | .frozen a k,h=>fun τ w es d ht=>zb8 (h.2 _) τ w es d ht
 | .getObj r k,h=>fun τ w es d ht=>by
  simp only [Sem.runT] at ht ⊢;have e1:(re τ d w).heap[r]?=w.heap[r]?:=rfl;rw [e1];rcases hc:w.heap[r]? with _|o
  ·exact ⟨by simp [reR,rw'],yax _,rfl⟩
  ·rw [hc] at ht;cases o<;>first|exact ⟨by simp [reR,rw'],yax _,rfl⟩|exact zb8 (h _) τ w _ d ht
 | .setObj r o k,h=>fun τ w es d ht=>by
  simp only [Sem.runT] at ht ⊢;have e1:(re τ d w).heap[r]?=w.heap[r]?:=rfl;rw [e1];rcases hc:w.heap[r]? with _|o'
  ·exact ⟨by simp [reR,rw'],yax _,rfl⟩
  ·rw [hc] at ht;cases o'<;>first|exact ⟨by simp [reR,rw'],yax _,rfl⟩|exact zb8 (s:=k) h.2 τ { w with heap:=w.heap.setIfInBounds r o } _ d ht
 | .choose q k,h=>fun τ w es d ht=>by
  simp only [Sem.runT] at ht ⊢;by_cases hq:q.forced=true
  ·simp only [hq,if_true] at ht ⊢;exact zb8 (h _) τ w es d ht
  ·simp only [hq,Bool.false_eq_true,if_false] at ht ⊢;have hm:=(zb8 (h (q.cut (w.tape w.drawn q))) w.tape { w with drawn:=w.drawn+1 } es (w.drawn+1) (fun j _=>rfl)).2;have h0:τ d=w.tape w.drawn:=by
    have:=ht 0 (by have:=hm.1;simp only at this;omega)
    simpa using this
   have e1:(re τ d w).tape (re τ d w).drawn q=w.tape w.drawn q:=congrFun h0 q;rw [e1];have hr:=(zb8 (h (q.cut (w.tape w.drawn q))) τ { w with drawn:=w.drawn+1 } es (d+1) (fun j hj=>by
    have:=ht (j+1) (by simp only at hj;omega);simp only;rw [show d+1+j=d+(j+1) by omega,this];congr 1;omega)).1
   refine ⟨?_,by have:=hm.1;simp only at this;omega,hm.2⟩;have e2:({ re τ d w with drawn:=(re τ d w).drawn+1 }:World)=re τ (d+1) { w with drawn:=w.drawn+1 }:=rfl;rw [e2,hr];have hle:=hm.1;simp only at hle ⊢;congr 2;omega
 | .sys _ _,h=>h.elim
 | .program k,h=>fun τ w es d ht=>zb8 (s:=k P) h τ w es d ht
 | .mark m k,h=>fun τ w es d ht=>zb8 (s:=k) h.2 τ w _ d ht
end
def zc2 (D:Nat→Option (Nat×Nat)) (b:Nat) (o:Obj):Obj:=match D b,o with
 | some r,.cells c e _ => .cells c e r
 | _,o=>o
def poi (D:Nat→Option (Nat×Nat)) (w:World):World:={ w with heap:=w.heap.mapIdx (zc2 D) }
def Okd (D:Nat→Option (Nat×Nat)) (w:World):Prop:=∀ b r,D b=some r→∃ c e,w.heap[b]?=some (.cells c e (0,0))
structure Pres (D:Nat→Option (Nat×Nat)) (w w':World):Prop where
 size:w.heap.size≤w'.heap.size
 okd:Okd D w'
 cells:∀ b r i,D b=some r→r.1≤i→i < r.2→w'.cell? ⟨b,i,none⟩=w.cell? ⟨b,i,none⟩
 chans:∀ (b cap:Nat) (buf:Array Value) (cl:Bool) (s r:Nat) (tm:Bool),w.heap[b]?=some (.chan cap buf cl s r tm)→w'.heap[b]?=w.heap[b]?
 outs:w'.os=w.os∧w'.output=w.output
def evD (D:Nat→Option (Nat×Nat)) (e:Event):Prop:=∀ b r i sp,D b=some r→r.1≤i→i < r.2→e.loc = .cell ⟨b,i,sp⟩→e.write=false
section
variable {D:Nat→Option (Nat×Nat)}
theorem zb4 (w:World) (b:Nat):(poi D w).heap[b]?=(w.heap[b]?).map (zc2 D b):=by simp [poi]
theorem za2 (w:World):(poi D w).heap.size=w.heap.size:=by simp [poi]
theorem zim (w:World) (a:Addr):(poi D w).cell? a=w.cell? a:=by
 unfold World.cell?;rw [zb4];cases h:w.heap[a.block]? with
 | none=>rfl
 | some o =>
  cases o<;>cases hd:D a.block<;>simp [zc2,hd]
theorem zr7 (w:World) (r:Nat):(poi D w).shape? r=w.shape? r:=by
 unfold World.shape?;rw [zb4];cases h:w.heap[r]? with
 | none=>rfl
 | some o =>
  cases o<;>cases hd:D r<;>simp [zc2,hd]
theorem poi_new (w:World) (o:Obj) (h:Okd D w):({ poi D w with heap:=(poi D w).heap.push o }:World)=poi D { w with heap:=w.heap.push o }:=by
 have hd:D w.heap.size=none:=by
  cases hx:D w.heap.size with
  | none=>rfl
  | some r =>
   obtain ⟨c,e,hc⟩:=h _ _ hx;have:=(yah.1 hc).1;omega
 have:(w.heap.mapIdx (zc2 D)).push o=(w.heap.push o).mapIdx (zc2 D):=by
  rw [Array.mapIdx_push];congr 1;simp [zc2,hd]
 simp only [poi,this]
theorem zf7 (w:World) (a:Addr) (v:Value):(poi D w).setCell a v=poi D (w.setCell a v):=by
 unfold World.setCell poi;simp only;congr 1;apply Array.ext_getElem?;intro b;simp only [Array.getElem?_modify,Array.getElem?_mapIdx];by_cases e:a.block=b
 ·subst e;simp only [if_true];cases h:w.heap[a.block]? with
  | none=>rfl
  | some o=>cases o<;>cases hd:D a.block<;>simp [zc2,hd]
 ·simp only [if_neg e]
theorem Pres.refl {w:World} (h:Okd D w):Pres D w w:=⟨yax _,h,fun _ _ _ _ _ _=>rfl,fun _ _ _ _ _ _ _ _=>rfl,rfl,rfl⟩
theorem Pres.trans {w w' w'':World} (h:Pres D w w') (k:Pres D w' w''):Pres D w w'' :=
 ⟨Nat.le_trans h.size k.size,k.okd,fun b r i a1 a2 a3=>(k.cells b r i a1 a2 a3).trans (h.cells b r i a1 a2 a3),fun b cap buf cl s r tm hb=>(k.chans b cap buf cl s r tm ((h.chans b cap buf cl s r tm hb).trans hb)).trans (h.chans b cap buf cl s r tm hb),k.outs.1.trans h.outs.1,k.outs.2.trans h.outs.2⟩
theorem zk8 {w:World} (h:Okd D w) {b:Nat} {c c':Array Value} {e:TypeId} {f f':Nat×Nat} (hb:w.heap[b]?=some (.cells c e f)) (hf:D b≠none→f'=(0,0)) (hc:∀ r i,D b=some r→r.1≤i→i < r.2→c'[i]?=c[i]?) :
  Pres D w { w with heap:=w.heap.setIfInBounds b (.cells c' e f') }:=by
 have hlt:=(yah.1 hb).1;have hget:∀ x,(w.heap.setIfInBounds b (.cells c' e f'))[x]?=if x=b then some (.cells c' e f') else w.heap[x]?:=fun x=>by
  by_cases e2:x=b
  ·subst e2;rw [if_pos rfl,Array.getElem?_setIfInBounds_self_of_lt hlt]
  ·rw [if_neg e2,Array.getElem?_setIfInBounds_ne (fun q=>e2 q.symm)]
 refine ⟨by simp,fun x r hx=>?_,fun x r i a1 a2 a3=>?_,fun x cap buf cl s r tm hx=>?_,rfl,rfl⟩
 ·simp only [hget];by_cases e2:x=b
  ·subst e2;rw [if_pos rfl,hf (by rw [hx];simp)];exact ⟨_,_,rfl⟩
  ·rw [if_neg e2];exact h x r hx
 ·unfold World.cell?;simp only [hget];by_cases e2:x=b
  ·subst e2;rw [if_pos rfl,hb];simp only;exact hc r i a1 a2 a3
  ·rw [if_neg e2]
 ·simp only [hget];by_cases e2:x=b
  ·subst e2;rw [hb] at hx;cases hx
  ·rw [if_neg e2]
theorem zqg {w:World} {a:Addr} {v:Value} (hc:w.cell? a=some v) (hf:(poi D w).frozen? a=false) (h:Okd D w):w.frozen? a=false∧∀ r,D a.block=some r→¬ (r.1≤a.off∧a.off < r.2):=by
 unfold World.cell? at hc;unfold World.frozen? at hf ⊢;rw [zb4] at hf;cases hb:w.heap[a.block]? with
 | none=>rw [hb] at hc;cases hc
 | some o =>
  rw [hb] at hc hf;cases o with
  | cells c e f =>
   cases hd:D a.block with
   | none =>
    simp only [Option.map_some,zc2,hd] at hf;exact ⟨hf,fun r e=>by cases e⟩
   | some r =>
    obtain ⟨c',e',hz⟩:=h _ _ hd;rw [hb] at hz;cases hz;simp only [Option.map_some,zc2,hd] at hf;refine ⟨by simp,fun r' e=>?_⟩;cases e
    simpa using hf
  | _=>simp at hc
theorem zqc {w:World} {a:Addr} {v u:Value} {c:Array Value} {e:TypeId} {f:Nat×Nat} (hc:w.cell? a=some u) (hb:w.heap[a.block]?=some (.cells c e f)):a.spot=none∧w.setCell a v={ w with heap:=w.heap.setIfInBounds a.block (.cells (c.setIfInBounds a.off v) e f) }:=by
 have hs:a.spot=none:=by
  unfold World.cell? at hc;rw [hb] at hc;simp only at hc;split at hc
  ·cases hc
  ·rename_i h;simpa using h
 refine ⟨hs,?_⟩;unfold World.setCell;have:w.heap.modify a.block (fun | .cells c elem frozen => .cells (if a.spot.isSome then c else c.setIfInBounds a.off v) elem frozen|o=>o)=w.heap.setIfInBounds a.block (.cells (c.setIfInBounds a.off v) e f):=by
  apply Array.ext_getElem?;intro b;rw [Array.getElem?_modify];have hlt:=(yah.1 hb).1;by_cases e2:a.block=b
  ·subst e2;rw [if_pos rfl,hb,Array.getElem?_setIfInBounds_self_of_lt hlt];simp [hs]
  ·rw [if_neg e2,Array.getElem?_setIfInBounds_ne e2]
 exact congrArg (fun h=>({ w with heap:=h }:World)) this
theorem zfb {w:World} (h:Okd D w) {a:Addr} {v u:Value} (hc:w.cell? a=some u) (hn:∀ r,D a.block=some r→¬ (r.1≤a.off∧a.off < r.2)):Pres D w (w.setCell a v):=by
 cases hb:w.heap[a.block]? with
 | none=>unfold World.cell? at hc;rw [hb] at hc;cases hc
 | some o =>
  cases o with
  | cells c e f =>
   rw [(zqc hc hb).2];refine zk8 h hb (fun hd=>?_) (fun r i hd h1 h2=>?_)
   ·cases hx:D a.block with
    | none=>exact absurd hx hd
    | some r =>
     obtain ⟨c',e',hz⟩:=h _ _ hx;rw [hb] at hz;cases hz;rfl
   ·rw [Array.getElem?_setIfInBounds_ne];intro e2;exact hn r hd ⟨by omega,by omega⟩
  | _=>unfold World.cell? at hc;rw [hb] at hc;simp at hc
theorem zpe {w:World} (h:Okd D w) (o:Obj):Pres D w { w with heap:=w.heap.push o }:=by
 have hold:∀ b x,w.heap[b]?=some x→(w.heap.push o)[b]?=some x:=fun b x hb=>by
  have:=(yah.1 hb).1;rw [Array.getElem?_push,if_neg (by omega),hb]
 refine ⟨by simp,fun b r hb=>?_,fun b r i a1 _ _=>?_,fun b cap buf cl s r tm hb=>?_,rfl,rfl⟩
 ·obtain ⟨c,e,hc⟩:=h b r hb;exact ⟨c,e,hold b _ hc⟩
 ·obtain ⟨c,e,hc⟩:=h b r a1;unfold World.cell?;simp only [hold b _ hc,hc]
 ·rw [hold b _ hb,hb]
theorem zpf {P:Program} (w:World) (at_:Addr) (u:TypeId) (k:Addr) (b:Bool):((poi D w).seen P at_ u k b)=(w.seen P at_ u k b).map (fun x=>(x.1,x.2.1,((D at_.block).getD x.2.2.1),x.2.2.2)):=by
 unfold World.seen;rw [zb4];cases hb:w.heap[at_.block]? with
 | none =>
  simp only [Option.map_none,bind,Except.bind,pure,Except.pure]
  repeat' first
   | rfl
   | split
 | some o =>
  cases o with
  | cells c e f =>
   cases hd:D at_.block<;>(simp only [Option.map_some,zc2,hd,Option.getD_none,Option.getD_some,bind,Except.bind,pure,Except.pure];repeat' first|rfl|split)
  | _ =>
   cases hd:D at_.block<;>(simp only [Option.map_some,zc2,hd,bind,Except.bind,pure,Except.pure];repeat' first|rfl|split)
theorem zn9 {P:Program} (w:World) (a:Addr) (b:Bool) {v:Value} {t:List Addr} (h:(poi D w).farLoad P a b = .ok (v,t)):w.farLoad P a b = .ok (v,t):=by
 unfold World.farLoad at h ⊢;rw [zb4] at h;cases hb:w.heap[a.block]? with
 | none=>rw [hb] at h;cases h
 | some o =>
  rw [hb] at h;cases o with
  | view at_ u =>
   have e:zc2 D a.block (.view at_ u) = .view at_ u:=by unfold zc2;cases D a.block<;>rfl
   simp only [Option.map_some,e] at h ⊢;have e2:(poi D w).viewLoad P at_ u a b=w.viewLoad P at_ u a b:=by
    unfold World.viewLoad;rw [zpf];cases w.seen P at_ u a b<;>rfl
   rw [e2] at h;exact h
  | cells c e f =>
   cases hd:D a.block<;>(simp only [Option.map_some,zc2,hd] at h;cases h)
  | _ =>
   cases hd:D a.block<;>(simp only [Option.map_some,zc2,hd] at h;cases h)
theorem seen_ok {P:Program} {w:World} {at_:Addr} {u:TypeId} {k:Addr} {b:Bool} {c:Array Value} {e:TypeId} {f:Nat×Nat} {first:Nat} {like:Value} {cells:List (Nat×Nat×List UInt8)} (h:w.seen P at_ u k b = .ok (c,e,f,first,like,cells)):w.heap[at_.block]?=some (.cells c e f):=by
 unfold World.seen at h;simp only [bind,Except.bind,pure,Except.pure] at h
 repeat' first
  | (cases h;done)
  | split at h
 all_goals (first|(cases h;assumption)|skip)
theorem zir {X:Type} {r:Nat×Nat} {ix:X→Nat} {f g:Array Value→X→Except String (Array Value)} (hfg:∀ c x c',f c x = .ok c'→g c x = .ok c'∧(∃ n,c'=c.setIfInBounds (ix x) n)∧¬ (r.1≤ix x∧ix x < r.2)) :
  ∀ (l:List X) (c c':Array Value),l.foldlM f c = .ok c'→l.foldlM g c = .ok c'∧(∀ i,r.1≤i→i < r.2→c'[i]?=c[i]?)∧∀ x∈l,¬ (r.1≤ix x∧ix x < r.2)
 | [],c,c',h=>by
  rw [List.foldlM_nil] at h;cases h;exact ⟨rfl,fun _ _ _=>rfl,by simp⟩
 | x::l,c,c',h=>by
  rw [List.foldlM_cons] at h ⊢;cases hx:f c x with
  | error e=>rw [hx] at h;cases h
  | ok c1 =>
   rw [hx] at h;obtain ⟨h1,⟨n,h2⟩,h3⟩:=hfg c x c1 hx;obtain ⟨k1,k2,k3⟩:=zir hfg l c1 c' h;refine ⟨by rw [h1];exact k1,fun i a b=>?_,fun y hy=>?_⟩
   ·rw [k2 i a b,h2,Array.getElem?_setIfInBounds_ne (fun e=>h3 ⟨by omega,by omega⟩)]
   ·simp only [List.mem_cons] at hy;rcases hy with rfl|hy
    ·exact h3
    ·exact k3 y hy
theorem zve {X:Type} {r:Nat×Nat} {ix:X→Nat} {f:Array Value→X→Except String (Array Value)} (hf:∀ c x c',f c x = .ok c'→(∃ n,c'=c.setIfInBounds (ix x) n)∧¬ (r.1≤ix x∧ix x < r.2)) (l:List X) (c c':Array Value) (h:l.foldlM f c = .ok c') :
  (∀ i,r.1≤i→i < r.2→c'[i]?=c[i]?)∧∀ x∈l,¬ (r.1≤ix x∧ix x < r.2):=(zir (f:=f) (g:=f) (fun c x c' h=>⟨h,hf c x c' h⟩) l c c' h).2
theorem zk9 {P:Program} {w w':World} {at_:Addr} {u:TypeId} {k:Addr} {v:Value} {b:Bool} {t:List Addr} (hO:Okd D w) (h:(poi D w).viewStore P at_ u k v b = .ok (w',t)) :
  ∃ w1,w'=poi D w1∧w.viewStore P at_ u k v b = .ok (w1,t)∧Pres D w w1∧∀ x∈t,∀ r,D x.block=some r→¬ (r.1≤x.off∧x.off < r.2):=by
 unfold World.viewStore at h ⊢;rw [zpf] at h;cases ht:tight P P.depth u with
 | false=>simp [ht,bind,Except.bind,throw,throwThe,MonadExceptOf.throw] at h
 | true =>
  cases hs:w.seen P at_ u k b with
  | error e=>simp [ht,hs,bind,Except.bind,Except.map] at h
  | ok x =>
   obtain ⟨c,e,f,first,like,cells⟩:=x;have hb:=seen_ok hs;cases hv:v.bytes? with
   | none=>simp [ht,hs,hv,bind,Except.bind,Except.map,throw,throwThe,MonadExceptOf.throw] at h
   | some bytes =>
    by_cases hl:some bytes.length=like.bytes?.map (·.length)
    ·have hpoi:∀ (c':Array Value) (f':Nat×Nat),f'=(D at_.block).getD f→(D at_.block≠none→f=(0,0))→({ poi D w with heap:=(poi D w).heap.setIfInBounds at_.block (.cells c' e f') }:World)=poi D { w with heap:=w.heap.setIfInBounds at_.block (.cells c' e f) }:=fun c' f' h1 h2=>by
      have hlt:=(yah.1 hb).1;refine congrArg (fun h=>({ w with heap:=h }:World)) ?_;apply Array.ext_getElem?;intro x;rw [Array.getElem?_mapIdx];by_cases e2:x=at_.block
      ·subst e2;rw [Array.getElem?_setIfInBounds_self_of_lt (by rw [za2];exact hlt),Array.getElem?_setIfInBounds_self_of_lt hlt];cases hd:D at_.block<;>simp [zc2,hd,h1]
      ·rw [Array.getElem?_setIfInBounds_ne (fun q=>e2 q.symm),Array.getElem?_setIfInBounds_ne (fun q=>e2 q.symm),zb4]
     cases hd:D at_.block with
     | none =>
      simp only [ht,hs,hv,hl,hd,Option.getD_none,ne_eq,not_true_eq_false,Bool.not_true,Bool.false_eq_true,if_false,Except.map,bind,Except.bind] at h ⊢;split at h
      ·cases h
      ·rename_i c' hc';cases h;refine ⟨{ w with heap:=w.heap.setIfInBounds at_.block (.cells c' e f) },hpoi c' f (by rw [hd];rfl) (fun q=>absurd hd q),?_,zk8 hO hb (fun q=>absurd hd q) (fun r i q _ _=>by rw [hd] at q;cases q),fun x hx r q=>?_⟩
       ·first|rfl|(rw [hc'];rfl)
       ·obtain ⟨y,_,rfl⟩:=List.mem_map.1 hx;rw [hd] at q;cases q
     | some r =>
      obtain ⟨c0,e0,hz⟩:=hO _ _ hd;rw [hb] at hz;cases hz;simp only [ht,hs,hv,hl,hd,Option.getD_some,ne_eq,not_true_eq_false,Bool.not_true,Bool.false_eq_true,if_false,Except.map,bind,Except.bind] at h ⊢;split at h
      ·cases h
      ·rename_i c' hc';cases h;obtain ⟨k2,k3⟩:=zve (r:=r) (ix:=fun x:Nat×Nat×List UInt8=>x.1) (by
         intro c x c' h;split at h
         ·cases h
         ·split at h
          ·cases h
          ·rename_i h1 h2;split at h
           ·rename_i old ho;split at h
            ·rename_i new hn;cases h;have hne:¬ (r.1≤x.1∧x.1 < r.2):=by simpa using h2
             exact ⟨⟨_,rfl⟩,hne⟩
            ·cases h
           ·cases h) cells c c' hc'
       refine ⟨{ w with heap:=w.heap.setIfInBounds at_.block (.cells c' e (0,0)) },hpoi c' r (by rw [hd];rfl) (fun _=>rfl),?_,zk8 hO hb (fun _=>rfl) (fun r' i q a b=>by rw [hd] at q;cases q;exact k2 i a b),fun x hx r' q=>?_⟩
       ·split
        ·rename_i he;exact absurd (he.symm.trans (zir (r:=r) (ix:=fun x:Nat×Nat×List UInt8=>x.1) (by
         intro c x c' h;split at h
         ·cases h
         ·split at h
          ·cases h
          ·rename_i h1 h2;split at h
           ·rename_i old ho;split at h
            ·rename_i new hn;cases h;have hne:¬ (r.1≤x.1∧x.1 < r.2):=by simpa using h2
             refine ⟨?_,⟨_,rfl⟩,hne⟩;rw [if_neg h1,if_neg (by simp)];rfl
            ·cases h
           ·cases h) cells c c' hc').1) (by intro q;cases q)
        ·rename_i he;have:=he.symm.trans (zir (r:=r) (ix:=fun x:Nat×Nat×List UInt8=>x.1) (by
         intro c x c' h;split at h
         ·cases h
         ·split at h
          ·cases h
          ·rename_i h1 h2;split at h
           ·rename_i old ho;split at h
            ·rename_i new hn;cases h;have hne:¬ (r.1≤x.1∧x.1 < r.2):=by simpa using h2
             refine ⟨?_,⟨_,rfl⟩,hne⟩;rw [if_neg h1,if_neg (by simp)];rfl
            ·cases h
           ·cases h) cells c c' hc').1
         cases this;rfl
       ·obtain ⟨y,hy,rfl⟩:=List.mem_map.1 hx;rw [hd] at q;cases q;exact k3 y hy
    ·simp [ht,hs,hv,hl,bind,Except.bind,Except.map,throw,throwThe,MonadExceptOf.throw] at h
end
def fine {α:Type}:Result α→Prop
 | .ok _ _=>True
 | .halt (.panic _) _=>True
 | .halt _ _=>False
def poiR {α:Type} (D:Nat→Option (Nat×Nat)):Result α→Result α
 | .ok a w => .ok a (poi D w)
 | .halt h w => .halt h (poi D w)
section
variable {D:Nat→Option (Nat×Nat)} {P:Program} {α:Type} {V:α→Prop}
theorem zmq {w w':World} {a:Addr} {v:Value} {b:Bool} {t:List Addr} (hO:Okd D w) (h:(poi D w).farStore P a v b = .ok (w',t)) :
  ∃ w1,w'=poi D w1∧w.farStore P a v b = .ok (w1,t)∧Pres D w w1∧∀ x∈t,∀ r,D x.block=some r→¬ (r.1≤x.off∧x.off < r.2):=by
 unfold World.farStore at h ⊢;rw [zb4] at h;cases hb:w.heap[a.block]? with
 | none=>rw [hb] at h;cases h
 | some o =>
  rw [hb] at h;cases o with
  | view at_ u =>
   have e:zc2 D a.block (.view at_ u) = .view at_ u:=by unfold zc2;cases D a.block<;>rfl
   simp only [Option.map_some,e] at h ⊢;cases hv:(poi D w).viewStore P at_ u a v b with
   | error e=>rw [hv] at h;cases h
   | ok r =>
    rw [hv] at h;cases h;obtain ⟨w1,h1,h2,h3,h4⟩:=zk9 hO hv;exact ⟨w1,h1,by rw [h2],h3,h4⟩
  | cells c e f =>
   cases hd:D a.block<;>(simp only [Option.map_some,zc2,hd] at h;cases h)
  | _ =>
   cases hd:D a.block<;>(simp only [Option.map_some,zc2,hd] at h;cases h)
theorem zpq {w:World} {a:Addr} {b:Bool} {h:Halt} (e:w.farLoad P a b = .error h):∀ v,h ≠ .panic v:=by
 unfold World.farLoad at e;split at e
 ·split at e
  ·cases e
  ·cases e;intro v q;cases q
 ·cases e;unfold World.noCell;split<;>(intro v q;cases q)
theorem zm6 {w:World} {a:Addr} {u:Value} {b:Bool} {h:Halt} (e:w.farStore P a u b = .error h):∀ v,h ≠ .panic v:=by
 unfold World.farStore at e;split at e
 ·split at e
  ·cases e
  ·cases e;intro v q;cases q
 ·cases e;unfold World.noCell;split<;>(intro v q;cases q)
theorem zgy {h:Halt} {w:World} (hn:∀ v,h ≠ .panic v):¬ fine (.halt h w:Result α):=by
 cases h<;>first|(intro x;exact x)|exact absurd rfl (hn _)
theorem zb9:∀ {s:Sem α},zid P s→∀ (w:World) (es:Array Event),¬ fine (s.runT P w es).1
 | .pure a,h=>h.elim
 | .load m a k,h=>fun w es=>by
  unfold Sem.runT;split
  ·exact zb9 (h _) _ _
  ·split
   ·exact zb9 (h _) _ _
   ·rename_i he;exact zgy (zpq he)
 | .store m a v k,h=>fun w es=>by
  rcases zdk (P:=P) m a v k w es with ⟨_,e⟩|⟨_,_,_,_,e⟩|⟨_,_,_,e⟩|⟨w',t,_,_,e⟩|⟨x,_,hx,e⟩
  ·rw [e];exact fun x=>x
  ·rw [e];exact fun x=>x
  ·rw [e];exact zb9 (s:=k) h _ _
  ·rw [e];exact zb9 (s:=k) h _ _
  ·rw [e];exact zgy (zm6 hx)
 | .new _ k,h=>fun w es=>zb9 (h _) _ _
 | .shape _ k,h=>fun w es=>zb9 (h _) _ _
 | .freeze _ _ k,h=>fun w es=>zb9 (s:=k) h _ _
 | .frozen _ k,h=>fun w es=>zb9 (h _) _ _
 | .getObj r k,h=>fun w es=>by
  unfold Sem.runT;split
  ·exact fun x=>x
  ·exact zb9 (h _) _ _
  ·exact fun x=>x
 | .setObj r o k,h=>fun w es=>by
  unfold Sem.runT;split
  ·exact fun x=>x
  ·exact zb9 (s:=k) h _ _
  ·exact fun x=>x
 | .choose q k,h=>fun w es=>by
  unfold Sem.runT;split
  ·exact zb9 (h _) _ _
  ·exact zb9 (h _) _ _
 | .sys _ _,h=>h.elim
 | .program k,h=>fun w es=>zb9 (s:=k P) h _ _
 | .mark _ k,h=>fun w es=>zb9 (s:=k) h _ _
 | .halt x,h=>fun w es=>zgy h
structure Lock (D:Nat→Option (Nat×Nat)) (P:Program) {α:Type} (s:Sem α) (w:World) (es:Array Event) (r:Result α) (es':Array Event):Prop where
 eq:s.runT P w es=(r,es')
 poi:s.runT P (poi D w) es=(poiR D r,es')
 pres:Pres D w (rw' r)
 evs:∀ e∈es',e∈es∨evD D e
theorem zpr {a:Addr} {b:Bool}:evD D ⟨.cell a,false,b⟩:=fun _ _ _ _ _ _ _ _=>rfl
theorem evD_obj {r:Nat} {x b:Bool}:evD D ⟨.obj r,x,b⟩:=fun _ _ _ _ _ _ _ h=>by cases h
theorem zvh {m:Mark} {x b:Bool}:evD D ⟨.mark m,x,b⟩:=fun _ _ _ _ _ _ _ h=>by cases h
theorem zps {a:Addr} {x b:Bool} (h:∀ r,D a.block=some r→¬ (r.1≤a.off∧a.off < r.2)):evD D ⟨.cell a,x,b⟩:=fun q r i sp h1 h2 h3 h4=>by
 injection h4 with h4;subst h4;exact absurd ⟨h2,h3⟩ (h r h1)
theorem Lock.push {s k:Sem α} {w w1:World} {es:Array Event} {ev:Event} {r:Result α} {es':Array Event} (hev:evD D ev) (hp:Pres D w w1) (h:Lock D P k w1 (es.push ev) r es') (h1:s.runT P w es=k.runT P w1 (es.push ev)) (h2:s.runT P (Ytofacoojpgkbiaa.poi D w) es=k.runT P (Ytofacoojpgkbiaa.poi D w1) (es.push ev)):Lock D P s w es r es' :=
 ⟨h1.trans h.eq,h2.trans h.poi,hp.trans h.pres,fun e he=>by
  rcases h.evs e he with q|q
  ·rcases Array.mem_push.1 q with q|rfl
   ·exact .inl q
   ·exact .inr hev
  ·exact .inr q⟩
theorem Lock.app {s k:Sem α} {w w1:World} {es es2:Array Event} {r:Result α} {es':Array Event} (hev:∀ e∈es2,evD D e) (hp:Pres D w w1) (h:Lock D P k w1 (es++es2) r es') (h1:s.runT P w es=k.runT P w1 (es++es2)) (h2:s.runT P (Ytofacoojpgkbiaa.poi D w) es=k.runT P (Ytofacoojpgkbiaa.poi D w1) (es++es2)):Lock D P s w es r es' :=
 ⟨h1.trans h.eq,h2.trans h.poi,hp.trans h.pres,fun e he=>by
  rcases h.evs e he with q|q
  ·rcases Array.mem_append.1 q with q|q
   ·exact .inl q
   ·exact .inr (hev e q)
  ·exact .inr q⟩
theorem Lock.same {s k:Sem α} {w w1:World} {es:Array Event} {r:Result α} {es':Array Event} (hp:Pres D w w1) (h:Lock D P k w1 es r es') (h1:s.runT P w es=k.runT P w1 es) (h2:s.runT P (Ytofacoojpgkbiaa.poi D w) es=k.runT P (Ytofacoojpgkbiaa.poi D w1) es):Lock D P s w es r es' :=
 ⟨h1.trans h.eq,h2.trans h.poi,hp.trans h.pres,h.evs⟩
theorem zcg:∀ {s:Sem α},zds true P V s→∀ (w:World) (es:Array Event),Okd D w→fine (s.runT P (poi D w) es).1→∃ r es',Lock D P s w es r es'
 | .pure a,h=>fun w es hO hf=>⟨.ok a w,es,rfl,rfl,.refl hO,fun e he => .inl he⟩
 | .halt x,h=>fun w es hO hf=>⟨.halt x w,es,rfl,rfl,.refl hO,fun e he => .inl he⟩
 | .load m a k,h=>fun w es hO hf=>by
  have hc:=zim (D:=D) w a;cases hv:w.cell? a with
  | some v =>
   rw [hv] at hc;have e1:(Sem.load m a k).runT P (poi D w) es=(k v).runT P (poi D w) (es.push ⟨.cell a,false,m == .atomic⟩):=by simp only [Sem.runT,hc]
   have e2:(Sem.load m a k).runT P w es=(k v).runT P w (es.push ⟨.cell a,false,m == .atomic⟩):=by simp only [Sem.runT,hv]
   rw [e1] at hf;obtain ⟨r,es',hl⟩:=zcg (h v) w _ hO hf;exact ⟨r,es',hl.push zpr (.refl hO) e2 e1⟩
  | none =>
   rw [hv] at hc;cases hfl:(poi D w).farLoad P a (m == .atomic) with
   | error x =>
    have e1:(Sem.load m a k).runT P (poi D w) es=(.halt x (poi D w),es):=by simp only [Sem.runT,hc,hfl]
    rw [e1] at hf;exact absurd hf (zgy (zpq hfl))
   | ok q =>
    obtain ⟨v,t⟩:=q;have hr:=zn9 w a _ hfl;have e1:(Sem.load m a k).runT P (poi D w) es=(k v).runT P (poi D w) (es++t.toArray.map (⟨.cell ·,false,m == .atomic⟩)):=by simp only [Sem.runT,hc,hfl]
    have e2:(Sem.load m a k).runT P w es=(k v).runT P w (es++t.toArray.map (⟨.cell ·,false,m == .atomic⟩)):=by simp only [Sem.runT,hv,hr]
    rw [e1] at hf;obtain ⟨r,es',hl⟩:=zcg (h v) w _ hO hf;exact ⟨r,es',hl.app (fun e he=>by obtain ⟨x,_,rfl⟩:=Array.mem_map.1 he;exact zpr) (.refl hO) e2 e1⟩
 | .store m a v k,h=>fun w es hO hf=>by
  rcases zkd (P:=P) m a v k with hb|hp
  ·rw [hb] at hf;exact hf.elim
  ·rw [hp] at hf;have hc:=zim (D:=D) w a;cases hv:w.cell? a with
   | some u =>
    rw [hv] at hc;rw [hc] at hf;simp only at hf;cases hz:(poi D w).frozen? a with
    | true=>rw [hz] at hf;exact hf.elim
    | false =>
     rw [hz] at hf;obtain ⟨z1,z2⟩:=zqg hv hz hO;have e1:(Sem.store m a v k).runT P (poi D w) es=k.runT P (poi D (w.setCell a v)) (es.push ⟨.cell a,true,m == .atomic⟩):=by
      rw [hp,hc];simp only [hz,Bool.false_eq_true,if_false,zf7]
     have e2:(Sem.store m a v k).runT P w es=k.runT P (w.setCell a v) (es.push ⟨.cell a,true,m == .atomic⟩):=by
      rw [hp,hv];simp only [z1,Bool.false_eq_true,if_false]
     have hpr:=zfb (v:=v) hO hv z2;have hf':fine (k.runT P (poi D (w.setCell a v)) (es.push ⟨.cell a,true,m == .atomic⟩)).1:=by
      rw [← zf7]
      simpa using hf
     obtain ⟨r,es',hl⟩:=zcg (s:=k) h (w.setCell a v) _ hpr.okd hf';exact ⟨r,es',hl.push (zps z2) hpr e2 e1⟩
   | none =>
    rw [hv] at hc;rw [hc] at hf;simp only at hf;cases hfs:(poi D w).farStore P a v (m == .atomic) with
    | error x=>rw [hfs] at hf;exact absurd hf (zgy (zm6 hfs))
    | ok q =>
     obtain ⟨w',t⟩:=q;rw [hfs] at hf;obtain ⟨w1,rfl,s2,s3,s4⟩:=zmq hO hfs;have e1:(Sem.store m a v k).runT P (poi D w) es=k.runT P (poi D w1) (es++t.toArray.map (⟨.cell ·,true,m == .atomic⟩)):=by rw [hp,hc,hfs]
     have e2:(Sem.store m a v k).runT P w es=k.runT P w1 (es++t.toArray.map (⟨.cell ·,true,m == .atomic⟩)):=by rw [hp,hv,s2]
     obtain ⟨r,es',hl⟩:=zcg (s:=k) h w1 _ s3.okd hf;exact ⟨r,es',hl.app (fun e he=>by obtain ⟨x,hx,rfl⟩:=Array.mem_map.1 he;exact zps (s4 x (by simpa using hx))) s3 e2 e1⟩
 | .new o k,h=>fun w es hO hf=>by
  have e1:(Sem.new o k).runT P (poi D w) es=(k w.heap.size).runT P (poi D { w with heap:=w.heap.push o }) es:=by
   show (k (poi D w).heap.size).runT P { poi D w with heap:=(poi D w).heap.push o } es=_;rw [za2,poi_new w o hO]
  rw [e1] at hf;obtain ⟨r,es',hl⟩:=zcg (h w.heap.size) { w with heap:=w.heap.push o } es (zpe hO o).okd hf;exact ⟨r,es',hl.same (zpe hO o) rfl e1⟩
 | .shape x k,h=>fun w es hO hf=>by
  have e1:(Sem.shape x k).runT P (poi D w) es=(k (w.shape? x)).runT P (poi D w) es:=by
   show (k ((poi D w).shape? x)).runT P (poi D w) es=_;rw [zr7]
  rw [e1] at hf;obtain ⟨r,es',hl⟩:=zcg (h (w.shape? x)) w es hO hf;exact ⟨r,es',hl.same (.refl hO) rfl e1⟩
 | .freeze _ _ k,h=>by cases h.1
 | .frozen a k,h=>fun w es hO hf=>by
  rcases h.1 with q|q
  ·cases q
  ·exact absurd hf (zb9 (q _) _ _)
 | .getObj x k,h=>fun w es hO hf=>by
  cases hb:w.heap[x]? with
  | none =>
   have:(Sem.getObj x k).runT P (poi D w) es=(.halt (.stuck "getObj: no such block") (poi D w),es):=by simp only [Sem.runT,zb4,hb,Option.map_none]
   rw [this] at hf;exact hf.elim
  | some o =>
   by_cases hcc:∃ c e f,o = .cells c e f
   ·obtain ⟨c,e,f,rfl⟩:=hcc;have:(Sem.getObj x k).runT P (poi D w) es=(.halt (.stuck "getObj: a row of cells") (poi D w),es):=by
     cases hd:D x<;>simp only [Sem.runT,zb4,hb,Option.map_some,zc2,hd]
    rw [this] at hf;exact hf.elim
   ·have ho:zc2 D x o=o:=by
     cases o<;>first|exact absurd ⟨_,_,_,rfl⟩ hcc|(unfold zc2;cases D x<;>rfl)
    have e1:(Sem.getObj x k).runT P (poi D w) es=(k o).runT P (poi D w) (es.push ⟨.obj x,false,o.isChan⟩):=by
     simp only [Sem.runT,zb4,hb,Option.map_some,ho];cases o<;>first|exact absurd ⟨_,_,_,rfl⟩ hcc|rfl
    have e2:(Sem.getObj x k).runT P w es=(k o).runT P w (es.push ⟨.obj x,false,o.isChan⟩):=by
     simp only [Sem.runT,hb];cases o<;>first|exact absurd ⟨_,_,_,rfl⟩ hcc|rfl
    rw [e1] at hf;obtain ⟨r,es',hl⟩:=zcg (h o) w _ hO hf;exact ⟨r,es',hl.push evD_obj (.refl hO) e2 e1⟩
 | .setObj _ _ k,h=>by cases h.1
 | .choose q k,h=>fun w es hO hf=>by
  by_cases hq:q.forced=true
  ·have e1:∀ w,(Sem.choose q k).runT P w es=(k 0).runT P w es:=fun w=>by simp only [Sem.runT,hq,if_true]
   rw [e1] at hf;obtain ⟨r,es',hl⟩:=zcg (h 0) w es hO hf;exact ⟨r,es',hl.same (.refl hO) (e1 _) (e1 _)⟩
  ·have e1:∀ w,(Sem.choose q k).runT P w es=(k (q.cut (w.tape w.drawn q))).runT P { w with drawn:=w.drawn+1 } es:=fun w=>by simp only [Sem.runT,hq,Bool.false_eq_true,if_false]
   rw [e1] at hf;obtain ⟨r,es',hl⟩:=zcg (h (q.cut (w.tape w.drawn q))) { w with drawn:=w.drawn+1 } es hO hf;have hp:Pres D w { w with drawn:=w.drawn+1 }:=⟨yax _,hO,fun _ _ _ _ _ _=>rfl,fun _ _ _ _ _ _ _ _=>rfl,rfl,rfl⟩;exact ⟨r,es',Lock.same (k:=k (q.cut (w.tape w.drawn q))) hp hl (e1 w) (e1 (poi D w))⟩
 | .sys _ _,h=>h.elim
 | .program k,h=>fun w es hO hf=>by
  obtain ⟨r,es',hl⟩:=zcg (s:=k P) h w es hO hf;exact ⟨r,es',hl.same (.refl hO) rfl rfl⟩
 | .mark m k,h=>fun w es hO hf=>by
  obtain ⟨r,es',hl⟩:=zcg (s:=k) h.2 w _ hO hf;exact ⟨r,es',hl.push zvh (.refl hO) rfl rfl⟩
end
def zox (C:FuncId→Prop):Next→Prop
 | .value _=>True
 | .skip=>True
 | .enter f _=>C f
 | _=>False
structure zci (z:Bool) (P:Program) (C:FuncId→Prop) (o:Oper):Prop where
 nodefer:∀ c,o.op ≠ .defer c
 tame:∀ fr:Frame,zds z P (zox C) (execOp fr.eval o)
def zby (z:Bool) (P:Program) (C:FuncId→Prop):Code→Prop
 | .skip | .label _ | .ret | .exit _=>True
 | .seq a b=>zby z P C a∧zby z P C b
 | .cond _ a b=>zby z P C a∧zby z P C b
 | .block _ c=>zby z P C c
 | .loop c=>zby z P C c
 | .region _ ops _=>∀ o∈ops,zci z P C o
 | _=>False
def ziu (z:Bool) (P:Program) (C:FuncId→Prop):Item→Prop
 | .code c=>zby z P C c
 | .inBlock _=>True
 | .inLoop c=>zby z P C c
 | .inRegion ops _=>∀ o∈ops,zci z P C o
 | _=>False
def zbr (z:Bool) (P:Program) (f:FuncId):Prop:=∃ fn,P.funcs[f]?=some fn∧∀ tmps,zds z P (fun _=>True) (results fn tmps)
structure zfh (z:Bool) (P:Program) (C:FuncId→Prop) (fr:Frame):Prop where
 kind:fr.kind = .normal
 round:fr.roundOf=none
 defers:fr.defers=[]
 todo:∀ it∈fr.todo,ziu z P C it
 res:zbr z P fr.fn
structure zp1 (z:Bool) (P:Program) (C:FuncId→Prop) (f:FuncId):Prop where
 body:∃ fn c,P.funcs[f]?=some fn∧fn.body=some c∧zby z P C c
 res:zbr z P f
structure ze0 (z:Bool) (P:Program) (C:FuncId→Prop) (s:Frame×List Frame):Prop where
 top:zfh z P C s.1
 low:∀ f∈s.2,zfh z P C f∧f.todo≠[]
def kk (k:List Item):List Frame→List Item
 | []=>k
 | _::_=>[]
def more (fr:Frame) (x:List Item):Frame:={ fr with todo:=fr.todo++x }
def lo (k:List Item):List Frame→List Frame
 | []=>[]
 | c::r=>more c (kk k r)::lo k r
def GK (fr:Frame) (frs:List Frame) (k:List Item) (cs:List Frame):Goroutine:=G (more fr (kk k frs)) (lo k frs++cs)
inductive Way where
 | fn
 | seg
def Al:Way→List Item→Prop
 | .fn,k=>k=[]
 | .seg,_=>True
def Fin (y:Way) (s:Frame×List Frame):Prop:=s.2=[]∧(s.1.mode ≠ .run∨(y = .seg∧(s.1.todo=[]∨∃ id tl,s.1.todo = .code (.exit id)::tl∧exitTo id tl=none)))
def out {β:Type} (Fn:β→Frame×List Frame) (Fp:Option (Value→Frame×List Frame)) (sn:Array Event→Array Event) (E:List Item→List Frame→Halt→World→Array Event→GStep) (k:List Item) (cs:List Frame):Result β×Array Event→GStep
 | (.ok b w',es) => .go (GK (Fn b).1 (Fn b).2 k cs) w' (sn es)
 | (.halt h w',es)=>match h,Fp with
  | .panic v,some Fp => .go (GK (Fp v).1 (Fp v).2 k cs) w' (sn es)
  | h,_=>E k cs h w' es
structure Form (y:Way) (z:Bool) (P:Program) (C:FuncId→Prop) (fr:Frame) (frs:List Frame) {β:Type} (V:β→Prop) (s:Sem β) (Fn:β→Frame×List Frame) (Fp:Option (Value→Frame×List Frame)) (sn:Array Event→Array Event) (E:List Item→List Frame→Halt→World→Array Event→GStep):Prop where
 tame:zds z P V s
 seen:∀ es e,e∈sn es→e∈es
 next:∀ b,V b→ze0 z P C (Fn b)
 pan:∀ F,Fp=some F→∀ v,ze0 z P C (F v)
 bad:∀ k cs h w es,zvu h→(Fp=none∨∀ v,h ≠ .panic v)→∃ o w' es',E k cs h w es = .ended o w' es'
 eq:∀ w k cs main,Al y k→(∀ a w',(s.runT P w #[]).1 = .ok a w'→V a)→(∀ h w',(s.runT P w #[]).1 = .halt h w'→zvu h)→stepG P main (GK fr frs k cs) w=out Fn Fp sn E k cs (s.runT P w #[])
def zfg (y:Way) (z:Bool) (P:Program) (C:FuncId→Prop) (fr:Frame) (frs:List Frame):Prop:=∃ (β:Type) (V:β→Prop) (s:Sem β) (Fn:β→Frame×List Frame) (Fp:Option (Value→Frame×List Frame)) (sn:Array Event→Array Event) (E:List Item→List Frame→Halt→World→Array Event→GStep),Form y z P C fr frs V s Fn Fp sn E
section
variable {y:Way} {z:Bool} {P:Program} {C:FuncId→Prop} {fr:Frame} {frs:List Frame}
theorem zhu (fr':Frame) (frs':List Frame) (hs:ze0 z P C (fr',frs')) (h:∀ w k cs main,Al y k→stepG P main (GK fr frs k cs) w = .go (GK fr' frs' k cs) w #[]):zfg y z P C fr frs :=
 ⟨Unit,fun _=>True,.pure (),fun _=>(fr',frs'),none,id,fun _ _ _ w _ => .ended (.stuck "" "") w #[],⟨trivial,fun _ _ h=>h,fun _ _=>hs,(fun _ e=>by cases e),fun _ _ _ w _ _ _=>⟨_,_,_,rfl⟩,fun w k cs main ha _ _=>by rw [h _ _ _ _ ha];rfl⟩⟩
theorem zlj (h0:ze0 z P C (fr,frs)) (o:List Item→Outcome) (h:∀ w k cs main,Al y k→stepG P main (GK fr frs k cs) w = .ended (o k) w #[]):zfg y z P C fr frs :=
 ⟨Unit,fun _=>True,.halt (.stuck ""),fun _=>(fr,frs),none,id,fun k _ _ w _ => .ended (o k) w #[],⟨trivial,fun _ _ h=>h,fun _ _=>h0,(fun _ e=>by cases e),fun _ _ _ w _ _ _=>⟨_,_,_,rfl⟩,fun w k cs main ha _ _=>by rw [h _ _ _ _ ha];rfl⟩⟩
theorem zhx {id:Nat} {x:List Item}:∀ {k k':List Item},exitTo id k=some k'→exitTo id (k++x)=some (k'++x)
 | [],k',h=>by cases h
 | y::k,k',h=>by
  cases y with
  | inBlock id' =>
   simp only [exitTo,yat] at h ⊢;split at h
   ·rename_i hh;cases h;rw [if_pos hh]
   ·rename_i hh;rw [if_neg hh];exact zhx h
  | _=>exact zhx (k:=k) h
theorem zkl {id:Nat}:∀ {k k':List Item},exitTo id k=some k'→∀ it∈k',it∈k
 | [],k',h=>by cases h
 | x::k,k',h=>by
  have key:exitTo id k=some k'→∀ it∈k',it∈x::k:=fun h it hit=>List.mem_cons_of_mem _ (zkl h it hit);cases x with
  | inBlock id' =>
   simp only [exitTo] at h;split at h
   ·cases h;exact fun it hit=>List.mem_cons_of_mem _ hit
   ·exact key h
  | _=>exact key h
theorem ztj (h:zfh z P C fr) (todo:List Item) (ht:∀ it∈todo,ziu z P C it):zfh z P C { fr with todo }:=⟨h.kind,h.round,h.defers,ht,h.res⟩
theorem zg7 (h:zfh z P C fr) (m:FrameMode):zfh z P C { fr with mode:=m }:=⟨h.kind,h.round,h.defers,h.todo,h.res⟩
theorem zs3 (fr:Frame) (v:Value):(fr.finish v).fn=fr.fn∧(fr.finish v).kind=fr.kind∧(fr.finish v).roundOf=fr.roundOf∧(fr.finish v).defers=fr.defers:=by
 unfold Frame.finish;split<;>exact ⟨rfl,rfl,rfl,rfl⟩
theorem zey (h:zbr z P fr.fn):fr.catches P=false:=by
 obtain ⟨fn,h1,_⟩:=h;unfold Frame.catches;rw [h1]
theorem zez (h:zfh z P C fr) (v:Value):zfh z P C (fr.finish v):=by
 obtain ⟨e1,e2,e3,e4⟩:=zs3 fr v;refine ⟨by rw [e2];exact h.kind,by rw [e3];exact h.round,by rw [e4];exact h.defers,fun it hit=>?_,by rw [e1];exact h.res⟩;have ht:=h.todo;unfold Frame.finish at hit;split at hit
 ·rename_i ops i rest k heq;rw [heq] at ht;simp only [List.mem_cons] at hit ht;rcases hit with rfl|hit
  ·exact ht (.inRegion ops (i::rest)) (.inl rfl)
  ·exact ht it (.inr hit)
 ·rename_i l k heq;exact (ht (.inRangeFunc l) (by rw [heq];exact .head _)).elim
 ·rename_i k heq;exact (ht .beginRound (by rw [heq];exact .head _)).elim
 ·rename_i a b c d k heq;exact (ht (.call a b c d) (by rw [heq];exact .head _)).elim
 ·rename_i a b k heq;exact (ht (.extern a b) (by rw [heq];exact .head _)).elim
 ·exact ht it hit
theorem zkn (h:zfh z P C fr) (c:List PanicEntry):zfh z P C (fr.raise c):=by
 unfold Frame.raise;split<;>exact zg7 h _
theorem zhy {f:FuncId} (h:zp1 z P C f) (args:Array Value):zfh z P C (Frame.enter P f args .normal):=by
 obtain ⟨fn,c,h1,h2,h3⟩:=h.body;refine ⟨rfl,rfl,rfl,fun it hit=>?_,h.res⟩;simp only [Frame.enter,h1,h2,Option.bind_some,Option.getD_some,yaj] at hit;subst hit;exact h3
theorem zex {c:Frame} (h:c.todo≠[]) (x:List Item) (v:Value):(more c x).finish v=more (c.finish v) x:=by
 obtain ⟨fn,tmps,todo,defers,mode,kind,ro⟩:=c;cases todo with
 | nil=>exact absurd rfl h
 | cons it tl =>
  cases it with
  | inRegion ops l=>cases l<;>rfl
  | _=>rfl
theorem zkf {c:Frame} (x:List Item) (l:List PanicEntry):(more c x).raise l=more (c.raise l) x:=by
 obtain ⟨fn,tmps,todo,defers,mode,kind,ro⟩:=c;cases mode<;>rfl
theorem zdh (c:Frame):more c []=c:=by
 obtain ⟨fn,tmps,todo,defers,mode,kind,ro⟩:=c;simp [more]
theorem zbd (h:fr.mode = .run) (cs:List Frame) (main:Bool) (w:World):stepG P main (G fr cs) w=stepG.exec P main true fr cs none w:=by
 obtain ⟨a,b,c,d,e,f,g⟩:=fr;simp only at h;subst h;rfl
theorem zbl (h:fr.mode ≠ .run) (cs:List Frame) (main:Bool) (w:World):stepG P main (G fr cs) w=unwind P main fr cs none w:=by
 obtain ⟨a,b,c,d,e,f,g⟩:=fr;simp only at h;cases e<;>first|exact absurd rfl h|rfl
theorem zrz {fn:FuncId} (es:Array Event) (h:∀ e∈es,evF e):∀ e∈seen P fn es,evF e:=fun e he=>h e (mem_seen he)
theorem zom {c:Frame} (h0:ze0 z P C (fr,c::frs)) (hm:fr.mode ≠ .run):zfg y z P C fr (c::frs):=by
 have hf:zfh z P C fr:=h0.top;have hc:zfh z P C c:=(h0.low c (.head _)).1;have hcn:c.todo≠[]:=(h0.low c (.head _)).2;have hr:∀ f∈frs,zfh z P C f∧f.todo≠[]:=fun f hf=>h0.low f (.tail _ hf);obtain ⟨fn,hfn,hres⟩:=hf.res;have hGK:∀ k cs,GK fr (c::frs) k cs=G fr (more c (kk k frs)::(lo k frs++cs)):=fun k cs=>by
  unfold GK;rw [show kk k (c::frs)=[] from rfl,zdh]
  rfl
 cases hmode:fr.mode with
 | run=>exact absurd hmode hm
 | panicking chain =>
  refine zhu (c.raise chain) frs ⟨zkn hc _,hr⟩ fun w k cs main _=>?_;rw [hGK,zbl hm];unfold unwind;rw [hf.defers];simp only [hmode];rw [zey hf.res,zkf];rfl
 | returning =>
  refine ⟨Value,fun _=>True,results fn fr.tmps,fun v=>(c.finish v,frs),none,seen P fr.fn,fun _ _ h w es=>match h with
   | .stuck s=>GStep.after (seen P fr.fn es) (.ended (.stuck s (fr.pos P)) w)
   | _=>GStep.after (seen P fr.fn es) (.ended (.stuck "return: the result variables cannot be read" (fr.pos P)) w),⟨hres _,fun es e h=>mem_seen h,fun v _=>⟨zez hc v,hr⟩,(fun _ e=>by cases e),fun _ _ h w es _ _=>by cases h<;>exact ⟨_,_,_,rfl⟩,fun w k cs main _ _ _=>?_⟩⟩
  rw [hGK,zbl hm];unfold unwind;rw [hf.defers];simp only [hmode,hfn];rcases hx:(results fn fr.tmps).runT P w #[] with ⟨r,es⟩;cases r with
  | ok v w' =>
   have hk:=hf.kind;simp only [out,doReturn,hk,GK,G];rw [zex hcn];simp [GStep.after]
  | halt h w'=>cases h<;>simp [out]
theorem zvd (hE:∀ (fr:Frame) (cs:List Frame) (dy:Option Dying) (g:Nat) (w:World),∃ o w' es,early P fr cs dy g w = .ended o w' es) (hC:∀ f,C f→zp1 z P C f) (h0:ze0 z P C (fr,frs)) (hm:fr.mode = .run) (hl:¬ Fin y (fr,frs)):zfg y z P C fr frs:=by
 have hf:zfh z P C fr:=h0.top;have hr:∀ f∈frs,zfh z P C f∧f.todo≠[]:=h0.low;have hmm:∀ x,(more fr x).mode = .run:=fun _=>hm;have hmo:∀ x,(more fr x).todo=fr.todo++x:=fun _=>rfl;have hmr:∀ x,(more fr x).roundOf=fr.roundOf:=fun _=>rfl;have ht:=hf.todo;have hro:=hf.round;have hki:=hf.kind;have key:∀ (todo:List Item),(∀ it∈todo,ziu z P C it)→(∀ w k cs main,Al y k→stepG P main (GK fr frs k cs) w = .go (GK { fr with todo } frs k cs) w #[])→zfg y z P C fr frs:=fun todo h1 h2=>zhu { fr with todo } frs ⟨ztj hf todo h1,hr⟩ h2;cases hto:fr.todo with
 | nil =>
  cases frs with
  | nil =>
   cases y with
   | seg=>exact absurd ⟨rfl,.inr ⟨rfl,.inl hto⟩⟩ hl
   | fn =>
    refine zhu { fr with mode := .returning } [] ⟨zg7 hf _,hr⟩ fun w k' cs main hal=>?_;have hal':k'=[]:=hal;subst hal';unfold GK;rw [zbd (hmm _)];unfold stepG.exec;simp only [hmo,hto,yas,hmr,hro,show kk [] []=[] from rfl]
    rfl
  | cons c r =>
   refine zhu { fr with mode := .returning } (c::r) ⟨zg7 hf _,hr⟩ fun w k' cs main hal=>?_;unfold GK;rw [zbd (hmm _)];unfold stepG.exec;simp only [hmo,hto,yas,hmr,hro,show kk k' (c::r)=[] from rfl]
   rfl
 | cons it k =>
  rw [hto] at ht;have hit:=ht it (.head _);have hk:∀ it∈k,ziu z P C it:=fun x hx=>ht x (.tail _ hx);cases it with
  | inBlock id =>
   refine key k hk fun w k' cs main hal=>?_;unfold GK;rw [zbd (hmm _)];unfold stepG.exec;simp only [hmo,hto,yat,yas];rfl
  | inLoop body =>
   refine key (.code body :: .inLoop body::k) (fun x hx=>?_) fun w k' cs main hal=>?_
   ·simp only [List.mem_cons] at hx;rcases hx with rfl|rfl|hx
    ·exact hit
    ·exact hit
    ·exact hk x hx
   ·unfold GK;rw [zbd (hmm _)];unfold stepG.exec;simp only [hmo,hto,yat,yas];rfl
  | inScope body=>exact hit.elim
  | inRangeFunc l=>exact hit.elim
  | endRangeFunc l=>exact hit.elim
  | beginRound=>exact hit.elim
  | call d a b c=>exact hit.elim
  | extern a b=>exact hit.elim
  | code c =>
   cases c with
   | skip =>
    refine key k hk fun w k' cs main hal=>?_;unfold GK;rw [zbd (hmm _)];unfold stepG.exec;simp only [hmo,hto,yat,yas];rfl
   | label l =>
    refine key k hk fun w k' cs main hal=>?_;unfold GK;rw [zbd (hmm _)];unfold stepG.exec;simp only [hmo,hto,yat,yas];rfl
   | ret =>
    refine zhu { fr with mode := .returning } frs ⟨zg7 hf _,hr⟩ fun w k' cs main hal=>?_;unfold GK;rw [zbd (hmm _)];unfold stepG.exec;simp only [hmo,hto,yat,yas,hmr,hro];rfl
   | seq a b =>
    refine key (.code a :: .code b::k) (fun x hx=>?_) fun w k' cs main hal=>?_
    ·simp only [List.mem_cons] at hx;rcases hx with rfl|rfl|hx
     ·exact hit.1
     ·exact hit.2
     ·exact hk x hx
    ·unfold GK;rw [zbd (hmm _)];unfold stepG.exec;simp only [hmo,hto,yat,yas];rfl
   | cond x a b =>
    by_cases hb:∃ t,fr.eval x = .bool t
    ·obtain ⟨t,hb⟩:=hb;refine key (.code (if t then a else b)::k) (fun y hx=>?_) fun w k' cs main hal=>?_
     ·simp only [List.mem_cons] at hx;rcases hx with rfl|hx
      ·cases t
       ·exact hit.2
       ·exact hit.1
      ·exact hk y hx
     ·unfold GK;rw [zbd (hmm _)];unfold stepG.exec;simp only [hmo,hto,yat,yas,show ∀ y,(more fr y).eval x=fr.eval x from fun _=>rfl,hb]
      rfl
    ·refine zlj h0 (fun k' => .stuck "cond: bool expected" ((more fr (kk k' frs)).pos P)) fun w k' cs main hal=>?_
     unfold GK;rw [zbd (hmm _)];unfold stepG.exec;simp only [hmo,hto,yat,yas];rw [show ∀ y,(more fr y).eval x=fr.eval x from fun _=>rfl]
     cases hv:fr.eval x<;>first|rfl|exact absurd ⟨_,hv⟩ hb
   | block id body =>
    refine key (.code body :: .inBlock id::k) (fun x hx=>?_) fun w k' cs main hal=>?_
    ·simp only [List.mem_cons] at hx;rcases hx with rfl|rfl|hx
     ·exact hit
     ·exact trivial
     ·exact hk x hx
    ·unfold GK;rw [zbd (hmm _)];unfold stepG.exec;simp only [hmo,hto,yat,yas];rfl
   | loop body =>
    refine key (.code body :: .inLoop body::k) (fun x hx=>?_) fun w k' cs main hal=>?_
    ·simp only [List.mem_cons] at hx;rcases hx with rfl|rfl|hx
     ·exact hit
     ·exact hit
     ·exact hk x hx
    ·unfold GK;rw [zbd (hmm _)];unfold stepG.exec;simp only [hmo,hto,yat,yas];rfl
   | exit id =>
    cases hx:exitTo id k with
    | some k' =>
     refine key k' (fun y hy=>hk y (zkl hx y hy)) fun w k' cs main hal=>?_;unfold GK;rw [zbd (hmm _)];unfold stepG.exec;simp only [hmo,hto,yat,yas,zhx hx];rfl
    | none =>
     cases frs with
     | nil =>
      cases y with
      | seg=>exact absurd ⟨rfl,.inr ⟨rfl,.inr ⟨id,k,hto,hx⟩⟩⟩ hl
      | fn =>
       refine zlj h0 (fun _ => .stuck "exit, goto: no such block or label" (fr.pos P)) fun w k' cs main hal=>?_
       have hal':k'=[]:=hal;subst hal';unfold GK;rw [zbd (hmm _)];unfold stepG.exec;simp only [hmo,hto,yat,List.append_nil,hx,hmr,hro,show kk [] []=[] from rfl,zdh]
       rfl
     | cons c r =>
      refine zlj h0 (fun _ => .stuck "exit, goto: no such block or label" (fr.pos P)) fun w k' cs main hal=>?_
      unfold GK;rw [zbd (hmm _)];unfold stepG.exec;simp only [hmo,hto,yat,List.append_nil,hx,hmr,hro,show kk k' (c::r)=[] from rfl,zdh]
      rfl
   | goto l=>exact hit.elim
   | scope b=>exact hit.elim
   | refuse w=>exact hit.elim
   | rangeFunc a b c d=>exact hit.elim
   | region id ops draw =>
    cases draw with
    | false =>
     refine key (.inRegion ops (List.range ops.size)::k) (fun x hx=>?_) fun w k' cs main hal=>?_
     ·simp only [List.mem_cons] at hx;rcases hx with rfl|hx
      ·exact hit
      ·exact hk x hx
     ·unfold GK;rw [zbd (hmm _)];unfold stepG.exec;simp only [hmo,hto,yat,yas];rfl
    | true =>
     refine ⟨Nat,fun _=>True,choose (.order fr.fn id),fun t=>({ fr with todo := .inRegion ops (Region.schedule (P.follows .mixedOrders) ops t)::k },frs),none,(fun es=>es),fun k' _ h w _ => .ended (.stuck "order" ((more fr (kk k' frs)).pos P)) w,⟨fun _=>trivial,fun _ _ h=>h,fun t _=>⟨ztj hf _ (fun x hx=>?_),hr⟩,(fun _ e=>by cases e),fun _ _ _ _ _ _ _=>⟨_,_,_,rfl⟩,fun w k' cs main _ _ _=>?_⟩⟩
     ·simp only [List.mem_cons] at hx;rcases hx with rfl|hx
      ·exact hit
      ·exact hk x hx
     ·unfold GK;rw [zbd (hmm _)];unfold stepG.exec;simp only [hmo,hto,yat,yas];rfl
  | inRegion ops l =>
   cases l with
   | nil =>
    refine key k hk fun w k' cs main hal=>?_;unfold GK;rw [zbd (hmm _)];unfold stepG.exec;simp only [hmo,hto,yat,yas];rfl
   | cons i rest =>
    by_cases hw:((ops[i]?).map (Region.wanted · (yielded ops fr.tmps))).getD false=true
    ·obtain ⟨o,ho⟩:∃ o,ops[i]?=some o:=by
      cases h:ops[i]? with
      | none=>rw [h] at hw;cases hw
      | some o=>exact ⟨o,rfl⟩
     have hop:zci z P C o:=hit o (Array.mem_of_getElem? ho);have hoper:∀ x,(more fr x).oper?=some o:=fun x=>by simp [Frame.oper?,more,hto,ho]
     have hne:fr.todo≠[]:=by rw [hto];simp
     refine ⟨Next,zox C,execOp fr.eval o,fun b=>match b with
      | .value v=>(fr.finish v,frs)
      | .skip=>(fr.finish undef,frs)
      | .enter f args=>(Frame.enter P f args .normal,fr::frs)
      | _=>(fr,frs),some (fun v=>(fr.raise [{ v,recovered:=false }],frs)),seen P fr.fn,fun k' cs h w es=>match h with
      | .unsupported (.initOrder g)=>GStep.after (seen P fr.fn #[]) (early P (more fr (kk k' frs)) (lo k' frs++cs) none g w)
      | .unsupported u=>GStep.after (seen P fr.fn es) (.ended (.unsupported u ((more fr (kk k' frs)).pos P)) w)
      | .stuck s=>GStep.after (seen P fr.fn es) (.ended (.stuck s ((more fr (kk k' frs)).pos P)) w)
      | _ => .ended (.stuck "" "") w,⟨hop.tame fr,fun es e h=>mem_seen h,fun b hb=>?_,fun F e v=>by cases e;exact ⟨zkn hf _,hr⟩,fun k' cs h w es hs hn=>?_,fun w k' cs main _ h1 h2=>?_⟩⟩
     ·cases b with
      | value v=>exact ⟨zez hf v,hr⟩
      | skip=>exact ⟨zez hf _,hr⟩
      | enter f args=>exact ⟨zhy (hC f hb) args,fun x hx=>by
        simp only [List.mem_cons] at hx;rcases hx with rfl|hx
        ·exact ⟨hf,hne⟩
        ·exact hr x hx⟩
      | _=>exact hb.elim
     ·cases h with
      | unsupported u =>
       cases u with
       | initOrder g =>
        obtain ⟨o',w',es',he⟩:=hE (more fr (kk k' frs)) (lo k' frs++cs) none g w;exact ⟨o',w',_,by simp only [he];rfl⟩
       | _=>exact ⟨_,_,_,rfl⟩
      | stuck s=>exact ⟨_,_,_,rfl⟩
      | panic v=>exact (hn.elim (fun e=>by cases e) (fun e=>(e v rfl).elim))
      | _=>exact hs.elim
     ·unfold GK;rw [zbd (hmm _)];unfold stepG.exec;have hw':((ops[i]?).map (Region.wanted · (yielded ops (more fr (kk k' frs)).tmps))).getD false=true:=hw;simp only [hmo,hto,yat,hw',if_true];unfold stepG.oper;simp only [hoper,hmr,hro];have hkm:(more fr (kk k' frs)).kind = .normal:=hki;have hev:(more fr (kk k' frs)).eval=fr.eval:=rfl;have hfn:(more fr (kk k' frs)).fn=fr.fn:=rfl;unfold stepG.apply;simp only [hmo,hto,yat,if_true,hkm,hev,hfn];rcases hx:(execOp fr.eval o).runT P w #[] with ⟨r,es⟩;rw [hx] at h1 h2;cases r with
      | ok b w' =>
       have hb:=h1 b w' rfl;cases b with
       | value v =>
        simp only [out,GK,zex hne];simp [GStep.after,G]
       | skip =>
        simp only [out,GK,zex hne];simp [GStep.after,G]
       | enter f args =>
        simp only [out,GK];simp [GStep.after,G,kk,lo,zdh]
       | _=>exact hb.elim
      | halt h w' =>
       have hs:=h2 h w' rfl;cases h with
       | panic v =>
        simp only [out,GK,zkf];simp [GStep.after,G]
       | stuck s=>simp [out,GStep.after,G]
       | unsupported u=>cases u<;>simp [out,GStep.after,G]
       | _=>exact hs.elim
    ·refine zhu (fr.finish undef) frs ⟨zez hf _,hr⟩ fun w k' cs main hal=>?_;have hne:fr.todo≠[]:=by rw [hto];simp
     unfold GK;rw [zbd (hmm _)];unfold stepG.exec;have hw':¬ ((ops[i]?).map (Region.wanted · (yielded ops (more fr (kk k' frs)).tmps))).getD false=true:=hw;simp only [hmo,hto,yat,hw',if_false,Bool.false_eq_true,zex hne];rfl
end
end Go.Proofs.Ytofacoojpgkbiaa
