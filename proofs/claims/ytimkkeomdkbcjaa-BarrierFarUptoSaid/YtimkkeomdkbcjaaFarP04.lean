/-
  Merged out of: Co Lone2. No condition of its own.
-/
import Derived.Test.YtimkkeomdkbcjaaFarP03
import Derived.Conc.Own4
import Derived.Test.YtimkkeomdkbcjaaFarP01
/-
  In company: a call of calm code by its lone contract; a piece of calm code by its lone walk; the return. No condition of its own.
-/
namespace Go.Proofs.Ytimkkeomdkbcjaa
open Go.Conc
set_option linter.unusedVariables false
set_option linter.unusedSimpArgs false

/-- What is held of a world is not of the tape. -/
def NoTape (R : World → Prop) : Prop := ∀ w τ d, R w → R (re τ d w)
section
variable {z : Bool} {P : Program} {C : FuncId → Prop}
theorem run_of_runT {α : Type} (s : Sem α) (w : World) (es : Array Event) : (s.runT P w es).1 = s.run P w := by rw [Sem.runT_eq]
theorem run_re {α : Type} {s : Sem α} {V : α → Prop} (h : Tame z P V s) {w w' : World} {v : α} (hr : s.run P w = .ok v w') (hd : w'.drawn = w.drawn) (τ : Nat → Question → Nat) (d : Nat) : s.run P (re τ d w) = .ok v (re τ d w') := by
  have h0 : (s.runT P w #[]).1 = .ok v w' := by rw [run_of_runT, hr]
  have := (runT_re h τ w #[] d (fun j hj => by rw [h0] at hj; simp only [rw'] at hj; omega)).1
  have h1 := congrArg Prod.fst this
  rw [run_of_runT, h0] at h1
  simp only [reR, rw', hd, Nat.sub_self, Nat.add_zero] at h1
  exact h1
theorem leaving_re {fr : Frame} {w : World} {v : Value} (hres : CalmRes z P fr.fn) (h : fr.leaving P w (.returned v)) (τ : Nat → Question → Nat) (d : Nat) : fr.leaving P (re τ d w) (.returned v) := by
  obtain ⟨h1, h2, h3, fn, h4, h5⟩ := h
  obtain ⟨fn', e, ht⟩ := hres
  rw [h4] at e
  cases e
  exact ⟨h1, h2, h3, fn, h4, run_re (ht _) h5 rfl τ d⟩
/-- The return to the caller. -/
theorem step_return {fr c : Frame} {cs : List Frame} {w : World} {v : Value} (hres : CalmRes z P fr.fn) (h : fr.leaving P w (.returned v)) (main : Bool) : ∃ es, (∀ e ∈ es, evF e) ∧ stepG P main (G fr (c :: cs)) w = .go (G (c.finish v) cs) w es := by
  obtain ⟨h1, h2, h3, fn, h4, h5⟩ := h
  obtain ⟨fn', e, ht⟩ := hres
  rw [h4] at e
  cases e
  have hev := tame_events (ht fr.tmps) w #[] (by simp)
  have hr : ((results fn fr.tmps).runT P w #[]).1 = .ok v w := by rw [run_of_runT, h5]
  have hm : fr.mode ≠ .run := by rw [h1]; simp
  rcases hx : (results fn fr.tmps).runT P w #[] with ⟨r, es⟩
  rw [hx] at hr hev
  simp only at hr hev
  subst hr
  refine ⟨seen P fr.fn es, seen_ev es hev, ?_⟩
  rw [stepG_unwind hm]
  unfold unwind
  rw [h2]
  simp only [h1, h4, hx, doReturn, h3]
  simp [GStep.after, G]
/-- The lone contract of a call, as a run on every tape. -/
def StF (P : Program) (f : FuncId) (R : Value → World → Prop) (s : Frame × List Frame) (w : World) : Prop := s.2 = [] ∧ s.1.fn = f ∧ ∃ v, s.1.leaving P w (.returned v) ∧ R v w
theorem good_calls {f : FuncId} {args : Array Value} {w : World} {R : Value → World → Prop} (h : ∀ τ d, Calls P f args (re τ d w) fun e w' => ∃ v, e = .returned v ∧ R v w') : GoodS .fn P (StF P f R) (Frame.enter P f args .normal, []) w := fun τ d => by
  obtain ⟨e, w', fr, ⟨v, rfl, hv⟩, hs, hf, hl⟩ := h τ d [cb]
  obtain ⟨n, hn⟩ : Steps P (lone (Frame.enter P f args .normal) [cb] (re τ d w)) (lone fr [cb] w') := hs
  refine ⟨n, (fr, []), w', ?_, rfl, hf, v, hl, hv⟩
  have e1 : SK .fn (Frame.enter P f args .normal, []) (re τ d w) = lone (Frame.enter P f args .normal) [cb] (re τ d w) := by
    show solo (G (more (Frame.enter P f args .normal) []) [cb]) _ = _
    rw [more_nil]; rfl
  have e2 : SK .fn (fr, []) w' = lone fr [cb] w' := by
    show solo (G (more fr []) [cb]) _ = _
    rw [more_nil]; rfl
  rw [e1, e2]
  exact hn
theorem fut_enter (hP : Prg z P C) {f : FuncId} (hC : C f) {args : Array Value} {w : World} {R : Value → World → Prop} (hR : ∀ v, NoTape (R v)) (h : ∀ τ d, Calls P f args (re τ d w) fun e w' => ∃ v, e = .returned v ∧ R v w') (cs : List Frame) (main : Bool) :
    Fut P main DL (fun g w' => ∃ fr v, g = G fr cs ∧ fr.fn = f ∧ fr.leaving P w' (.returned v) ∧ R v w') (G (Frame.enter P f args .normal) cs) w := by
  have hf := hP.fns f hC
  have hg := good_calls h
  have h0 : CalmS z P C (Frame.enter P f args .normal, []) := ⟨calm_enter hf args, by simp⟩
  have := fut_of_good hP (y := .fn) (St := StF P f R) (fun s w τ d ⟨a, b, v, c, e⟩ => ⟨a, b, v, leaving_re (by rw [b]; exact hf.res) c τ d, hR v _ _ _ e⟩) h0 hg [] rfl cs main
  have e1 : GK (Frame.enter P f args .normal) [] [] cs = G (Frame.enter P f args .normal) cs := by
    show G (more _ []) cs = _
    rw [more_nil]
  rw [e1] at this
  refine this.mono fun g w' ⟨s', e, hs1, hs2, v, hl, hv⟩ => ⟨s'.1, v, ?_, hs2, hl, hv⟩
  rw [e]
  unfold GK
  rw [hs1]
  show G (more s'.1 []) cs = _
  rw [more_nil]
/-- ████ A CALL OF CALM CODE, BY ITS LONE CONTRACT. ████ -/
theorem fut_call (hP : Prg z P C) {b : Frame} {a : Act} {ops : Array Oper} {i : Nat} {rest : List Nat} {o : Oper} {kt : List Item} {cs : List Frame} {f : FuncId} {fn : Func} {c : Code} {args : Array Operand} {ats : Array TypeId} {w : World} {main : Bool} {Stop : Goroutine → World → Prop} {R : Value → World → Prop}
    (hC : C f) (ho : ops[i]? = some o) (hw : Region.wanted o (yielded ops a.tmps) = true) (hk : b.kind ≠ .early) (hop : o.op = .call { callee := .value (.func f), args, argTypes := ats }) (hf : P.funcs[f]? = some fn) (hname : (fn.name == "runtime.NumGoroutine") = false) (hb : fn.body = some c)
    (hR : ∀ v, NoTape (R v)) (h : ∀ τ d, Calls P f (args.map a.eval) (re τ d w) fun e w' => ∃ v, e = .returned v ∧ R v w')
    (cont : ∀ v w', R v w' → Fut P main DL Stop (G (b.at (a.put o.dst v) (.inRegion ops rest :: kt)) cs) w') :
    Fut P main DL Stop (G (b.at a (.inRegion ops (i :: rest) :: kt)) cs) w := by
  refine Fut.go rfl fun d => goes_call ho hw hk hop hf hname hb ⟨dl_of (by simp), ?_⟩
  rw [← enter_at _ hf hb]
  refine (fut_enter hP hC hR (w := w.at d) (fun τ d' => h τ d') _ main).bind fun g w' ⟨fr, v, e, hfn, hl, hv⟩ => ?_
  subst e
  have hres : CalmRes z P fr.fn := by rw [hfn]; exact (hP.fns f hC).res
  refine Fut.step' rfl fun d' => ?_
  have hl' := leaving_re hres hl w'.tape d'
  obtain ⟨es, hes, hst⟩ := step_return (c := b.at a (.inRegion ops (i :: rest) :: kt)) (cs := cs) hres hl' main
  refine ⟨_, _, es, hst, dl_of hes, ?_⟩
  rw [Frame.finish_at, ho]
  exact cont v _ (hR v _ _ _ hv)
/-- ████ A PIECE OF CALM CODE, BY ITS LONE WALK. ████ -/
theorem fut_seg (hP : Prg z P C) {b : Frame} {a : Act} {c : Code} {k : List Item} {cs : List Frame} {w : World} {main : Bool} {Stop : Goroutine → World → Prop} {Q : Exit → Act → World → Prop}
    (hc : CalmCode z P C c) (hk : b.kind = .normal) (hres : CalmRes z P b.fn) (hd : a.defers = []) (hQ : ∀ a, NoTape (Q .normal a)) (hn : ∀ e a w, Q e a w → e = .normal) (h : ∀ τ d, c.wp P Q a (re τ d w))
    (cont : ∀ a' w', Q .normal a' w' → Fut P main DL Stop (G (b.at a' k) cs) w') : Fut P main DL Stop (G (b.at a (.code c :: k)) cs) w := by
  let St : Frame × List Frame → World → Prop := fun s w => s.2 = [] ∧ ∃ a', s.1 = b.at a' [] ∧ Q .normal a' w
  have h0 : CalmS z P C (b.at a [.code c], []) := ⟨⟨hk, rfl, hd, fun it hit => by
    have hit' : it ∈ [Item.code c] := hit
    simp only [List.mem_singleton] at hit'
    subst hit'
    exact hc, hres⟩, by simp⟩
  have hg : GoodS .seg P St (b.at a [.code c], []) w := fun τ d => by
    obtain ⟨e, a', w', hq, harr⟩ := h τ d b (K0 .seg) [cb]
    have he := hn _ _ _ hq
    subst he
    obtain ⟨n, hn'⟩ : Steps P (lone (b.at a (.code c :: K0 .seg)) [cb] (re τ d w)) (lone (b.at a' (K0 .seg)) [cb] w') := harr
    exact ⟨n, (b.at a' [], []), w', hn', rfl, a', rfl, hq⟩
  have := fut_of_good hP (y := .seg) (St := St) (fun s w τ d ⟨x, a', y, z⟩ => ⟨x, a', y, hQ a' _ _ _ z⟩) h0 hg k trivial cs main
  refine Fut.bind (Stop := fun g w' => ∃ s' : Frame × List Frame, g = GK s'.1 s'.2 k cs ∧ St s' w') this fun g w' ⟨s', e, hs1, a', hs2, hq⟩ => ?_
  have e2 : g = G (b.at a' k) cs := by
    rw [e]
    unfold GK
    rw [hs1, hs2]
    rfl
  rw [e2]
  exact cont a' w' hq
end
end Go.Proofs.Ytimkkeomdkbcjaa

/-
  What a piece of calm code does alone, on every tape, where some cells may not be written, it does in company where they may; and it does not write them. No condition of its own.
-/
namespace Go.Proofs.Ytimkkeomdkbcjaa
open Go.Conc
set_option linter.unusedVariables false
set_option linter.unusedSimpArgs false

section
variable {D : Nat → Option (Nat × Nat)} {y : Way} {P : Program} {C : FuncId → Prop} {St : Frame × List Frame → World → Prop}
theorem real_step {s s' : Frame × List Frame} {w w' : World} {es : Array Event} (hf : HasForm y true P C s.1 s.2) (hO : Okd D w) (hs : CStep y true P C s (poi D w) s' w' es) :
    ∃ w1, w' = poi D w1 ∧ (∀ k cs main, Al y k → stepG P main (GK s.1 s.2 k cs) w = .go (GK s'.1 s'.2 k cs) w1 es) ∧ Pres D w w1 ∧ ∀ e ∈ es, evD D e := by
  obtain ⟨β, V, c, Fn, Fp, sn, E, hF⟩ := hf
  obtain ⟨o1, o2⟩ := tame_out hF.tame (poi D w) #[]
  have e0 := hs.eq (poi D w).tape (poi D w).drawn (fun j _ => rfl) (K0 y) [cb] true (al0 y)
  rw [re_self, show (poi D w).drawn + (w'.drawn - (poi D w).drawn) = w'.drawn by have := hs.le; omega, ← hs.tape, re_self] at e0
  rw [hF.eq (poi D w) (K0 y) [cb] true (al0 y) o1 o2] at e0
  have hfine : fine (c.runT P (poi D w) #[]).1 := by
    rcases hx : c.runT P (poi D w) #[] with ⟨r, es1⟩
    rw [hx] at e0 o2
    cases r with
    | ok b w1 => trivial
    | halt h w1 =>
      have hsoft := o2 h w1 rfl
      cases h with
      | panic v => trivial
      | _ =>
        obtain ⟨o, w2, es2, he⟩ := hF.bad (K0 y) [cb] _ w1 es1 hsoft (.inr (fun v q => by cases q))
        simp only [out] at e0
        rw [he] at e0
        cases e0
  obtain ⟨r, es1, hl⟩ := runT_poi hF.tame w #[] hO hfine
  have hev : ∀ e ∈ es1, evD D e := fun e he => (hl.evs e he).elim (fun q => by simp at q) id
  obtain ⟨p1, p2⟩ := tame_out hF.tame w #[]
  rw [hl.poi] at e0
  have hreal : ∀ k cs main, Al y k → stepG P main (GK s.1 s.2 k cs) w = out Fn Fp sn E k cs (r, es1) := fun k cs main ha => by rw [hF.eq w k cs main ha p1 p2, hl.eq]
  cases r with
  | ok b w1 =>
    simp only [poiR, out, GStep.go.injEq] at e0
    obtain ⟨a1, a2, a3⟩ := e0
    have hfb : Fn b = s' := GK_inj a1
    refine ⟨w1, a2.symm, fun k cs main ha => ?_, hl.pres, fun e he => hev e (hF.seen es1 e (by rw [a3]; exact he))⟩
    rw [hreal k cs main ha, ← hfb, ← a3]
    rfl
  | halt h w1 =>
    cases h with
    | panic v =>
      cases hfp : Fp with
      | none =>
        rw [hfp] at e0
        simp only [poiR, out] at e0
        obtain ⟨o, w2, es2, he⟩ := hF.bad (K0 y) [cb] (.panic v) (poi D w1) es1 trivial (.inl hfp)
        rw [he] at e0
        cases e0
      | some F =>
        rw [hfp] at e0
        simp only [poiR, out, GStep.go.injEq] at e0
        obtain ⟨a1, a2, a3⟩ := e0
        have hfb : F v = s' := GK_inj a1
        refine ⟨w1, a2.symm, fun k cs main ha => ?_, hl.pres, fun e he => hev e (hF.seen es1 e (by rw [a3]; exact he))⟩
        rw [hreal k cs main ha, hfp, ← hfb, ← a3]
        rfl
    | _ =>
      have := hl.poi
      rw [this] at hfine
      exact hfine.elim
/-- The cells of D are those that are still; the seats' channels are channels. -/
structure Seats (D : Nat → Option (Nat × Nat)) (K : World → Prop) (Still : Loc → Prop) (Inb : Nat → Option Seat) (w : World) : Prop where
  okd : Okd D w
  keep : ∀ w w', Pres D w w' → K w → K w'
  still : ∀ l, Still l → ∃ b r i sp, D b = some r ∧ r.1 ≤ i ∧ i < r.2 ∧ l = .cell ⟨b, i, sp⟩
  chan : ∀ i s c, Inb i = some s → s.has c → ∃ cap buf cl a b tm, w.heap[c]? = some (.chan cap buf cl a b tm)
variable {K : World → Prop} {Still : Loc → Prop} {Inb : Nat → Option Seat}
theorem Seats.pres {w w' : World} (h : Seats D K Still Inb w) (hp : Pres D w w') : Seats D K Still Inb w' :=
  ⟨hp.okd, h.keep, h.still, fun i s c a b => by obtain ⟨cap, buf, cl, x, z, tm, hc⟩ := h.chan i s c a b; exact ⟨cap, buf, cl, x, z, tm, (hp.chans c _ _ _ _ _ _ hc).trans hc⟩⟩
theorem Seats.at {w : World} (h : Seats D K Still Inb w) (d : Nat) : Seats D K Still Inb (w.at d) := ⟨h.okd, h.keep, h.still, h.chan⟩
theorem Seats.dx {w w' : World} (h : Seats D K Still Inb w) (hp : Pres D w w') {es : Array Event} (h1 : ∀ e ∈ es, evD D e) (h2 : ∀ e ∈ es, evF e) : DX K Still Inb w w' es := by
  refine ⟨h.keep w w' hp, fun i s c a b => ?_, fun e he => ⟨fun x hx hs => ?_, (h2 e he).1, (h2 e he).2.1⟩⟩
  · obtain ⟨cap, buf, cl, x, z, tm, hc⟩ := h.chan i s c a b
    exact hp.chans c _ _ _ _ _ _ hc
  · obtain ⟨b, r, i, sp, q1, q2, q3, q4⟩ := h.still _ hs
    have hd := h1 e he b r i sp q1 q2 q3
    have hw := (h2 e he).2.2
    obtain ⟨l, wr, sy⟩ := e
    cases l with
    | cell a =>
      simp only [MemAct.ofEvent, MemAct.touch?, Option.some.injEq] at hx
      subst hx
      exact hd q4
    | obj o =>
      cases wr <;> cases sy <;> first | (simp [MemAct.ofEvent, MemAct.touch?] at hx; done) | (simp only [MemAct.ofEvent, MemAct.touch?, Option.some.injEq] at hx; subst hx; cases q4)
    | output =>
      simp only [MemAct.ofEvent, MemAct.touch?, Option.some.injEq] at hx
      subst hx
      cases q4
    | goroutines =>
      simp only [MemAct.ofEvent, MemAct.touch?, Option.some.injEq] at hx
      subst hx
      cases q4
    | mark m =>
      cases m with
      | write a => exact absurd rfl (hw a)
      | read a =>
        simp only [MemAct.ofEvent, MemAct.touch?, Option.some.injEq] at hx
        subst hx
        rfl
      | _ => simp [MemAct.ofEvent, MemAct.touch?] at hx
/-- ON WHATEVER TAPE, IN COMPANY THAT SITS. -/
theorem fut_of_good_poi (hP : Prg true P C) (hSt : ∀ s w τ d, St s w → St s (re τ d w)) {s : Frame × List Frame} {w : World} (h0 : CalmS true P C s) (hS : Seats D K Still Inb w) (hg : GoodS y P St s (poi D w)) (k : List Item) (hal : Al y k) (cs : List Frame) (main : Bool) :
    Fut P main (DX K Still Inb) (fun g w' => ∃ s', g = GK s'.1 s'.2 k cs ∧ St s' (poi D w') ∧ Pres D w w' ∧ w'.tape = w.tape) (GK s.1 s.2 k cs) w := by
  classical
  refine Classical.byContradiction fun hno => ?_
  let Stop : Goroutine → World → Prop := fun g w' => ∃ s', g = GK s'.1 s'.2 k cs ∧ St s' (poi D w') ∧ Pres D w w' ∧ w'.tape = w.tape
  let X := { p : (Frame × List Frame) × World // (CalmS true P C p.1 ∧ Pres D w p.2 ∧ p.2.tape = w.tape) ∧ GoodS y P St p.1 (poi D p.2) ∧ ¬ Fut P main (DX K Still Inb) Stop (GK p.1.1 p.1.2 k cs) p.2 }
  have hnl : ∀ x : X, ¬ St x.1.1 (poi D x.1.2) := fun x hl => x.2.2.2 (.stop ⟨x.1.1, rfl, hl, x.2.1.2.1, x.2.1.2.2⟩)
  have hnf : ∀ x : X, ¬ Fin y x.1.1 := fun x hl => by
    obtain ⟨n, s', w', hr, hst⟩ := x.2.2.1 (poi D x.1.2).tape (poi D x.1.2).drawn
    have hn := fin_stuck x.2.1.1 hl hr
    subst hn
    simp only [runN, Stepped.next.injEq] at hr
    obtain ⟨e1, e2⟩ := SK_inj hr
    rw [← e1, ← e2] at hst
    exact hnl x hst
  have hnext : ∀ x : X, ∃ (d : Nat) (x' : X) (es : Array Event), CStep y true P C x.1.1 (re (poi D x.1.2).tape d (poi D x.1.2)) x'.1.1 (poi D x'.1.2) es := fun x => by
    refine Classical.byContradiction fun hc => ?_
    refine x.2.2.2 (.step' rfl fun d => ?_)
    obtain ⟨s', w', es, hs, hg'⟩ := good_next hP hSt x.2.1.1 x.2.2.1 (hnl x) d
    have hOx : Okd D (x.1.2.at d) := x.2.1.2.1.okd
    have hs' : CStep y true P C x.1.1 (poi D (x.1.2.at d)) s' w' es := hs
    obtain ⟨w1, rfl, r1, r2, r3⟩ := real_step (has_form hP x.2.1.1 (hnf x)) hOx hs'
    have hSx := (hS.pres x.2.1.2.1).at d
    refine ⟨GK s'.1 s'.2 k cs, w1, es, r1 k cs main hal, hSx.dx r2 r3 hs.evs, ?_⟩
    refine Classical.byContradiction fun hf => hc ⟨d, ⟨(s', w1), ⟨hs.calm, x.2.1.2.1.trans ⟨r2.size, r2.okd, r2.cells, r2.chans, r2.outs⟩, (show w1.tape = w.tape from (show w1.tape = x.1.2.tape from hs.tape).trans x.2.1.2.2)⟩, hg', hf⟩, es, hs⟩
  let nd : X → Nat := fun x => (hnext x).choose
  let nx : X → X := fun x => (hnext x).choose_spec.choose
  have hst : ∀ x, ∃ es, CStep y true P C x.1.1 (re (poi D x.1.2).tape (nd x) (poi D x.1.2)) (nx x).1.1 (poi D (nx x).1.2) es := fun x => (hnext x).choose_spec.choose_spec
  let x0 : X := ⟨(s, w), ⟨h0, .refl hS.okd, rfl⟩, hg, hno⟩
  let sq : Nat → X := fun n => Nat.rec x0 (fun _ x => nx x) n
  have hsq : ∀ n, sq (n + 1) = nx (sq n) := fun _ => rfl
  let Q : Nat → Nat := fun n => (sq (n + 1)).1.2.drawn - nd (sq n)
  have hk : ∀ n, (sq (n + 1)).1.2.drawn = nd (sq n) + Q n := fun n => by
    obtain ⟨es, h⟩ := hst (sq n)
    have := h.le
    show (nx (sq n)).1.2.drawn = nd (sq n) + ((nx (sq n)).1.2.drawn - nd (sq n))
    have h2 : (re (poi D (sq n).1.2).tape (nd (sq n)) (poi D (sq n).1.2)).drawn = nd (sq n) := rfl
    have h3 : (poi D (nx (sq n)).1.2).drawn = (nx (sq n)).1.2.drawn := rfl
    omega
  let E : Nat → Nat := fun n => Nat.rec 0 (fun i a => a + Q i) n
  have hE : ∀ n, E (n + 1) = E n + Q n := fun _ => rfl
  have hEm : ∀ n m, n ≤ m → E n ≤ E m := fun n m h => by
    induction h with
    | refl => exact Nat.le_refl _
    | step _ ih => rw [hE]; omega
  have htape : ∀ n, (sq n).1.2.tape = w.tape := fun n => by
    induction n with
    | zero => rfl
    | succ n ih =>
      obtain ⟨es, h⟩ := hst (sq n)
      have : (poi D (nx (sq n)).1.2).tape = (poi D (sq n).1.2).tape := h.tape
      rw [hsq]
      exact this.trans ih
  let τ : Nat → Question → Nat := fun m => if h : ∃ n, E n ≤ m ∧ m < E (n + 1) then w.tape (nd (sq h.choose) + (m - E h.choose)) else w.tape 0
  have hτ : ∀ n j, j < Q n → τ (E n + j) = w.tape (nd (sq n) + j) := fun n j hj => by
    have hex : ∃ m, E m ≤ E n + j ∧ E n + j < E (m + 1) := ⟨n, by omega, by rw [hE]; omega⟩
    have hc := hex.choose_spec
    have he : hex.choose = n := by
      rcases Nat.lt_trichotomy hex.choose n with h | h | h
      · have := hEm (hex.choose + 1) n h
        omega
      · exact h
      · have := hEm (n + 1) hex.choose h
        rw [hE] at this
        omega
    show (if h : ∃ m, E m ≤ E n + j ∧ E n + j < E (m + 1) then w.tape (nd (sq h.choose) + (E n + j - E h.choose)) else w.tape 0) = _
    rw [dif_pos hex, he, Nat.add_sub_cancel_left]
  have hrun : ∀ n, runN P n (SK y s (re τ 0 (poi D w))) = .next (SK y (sq n).1.1 (re τ (E n) (poi D (sq n).1.2))) := fun n => by
    induction n with
    | zero => rfl
    | succ n ih =>
      obtain ⟨es, h⟩ := hst (sq n)
      have h2 : (re (poi D (sq n).1.2).tape (nd (sq n)) (poi D (sq n).1.2)).drawn = nd (sq n) := rfl
      have h3 : (poi D (nx (sq n)).1.2).drawn = nd (sq n) + Q n := hk n
      have e := h.eq τ (E n) (fun j hj => by
        rw [hτ n j (by omega)]
        show _ = (sq n).1.2.tape (nd (sq n) + j)
        rw [htape]) (K0 y) [cb] true (al0 y)
      rw [re_re, h2, h3, Nat.add_sub_cancel_left, ← hE] at e
      rw [runN_add, ih]
      show runN P 1 _ = _
      rw [SK, runN_next (step_go rfl e)]
      rfl
  obtain ⟨N, s', w', hr, hst'⟩ := hg τ 0
  rw [hrun N] at hr
  simp only [Stepped.next.injEq] at hr
  obtain ⟨e1, e2⟩ := SK_inj hr
  rw [← e1, ← e2] at hst'
  exact hnl (sq N) (hSt (sq N).1.1 (re τ (E N) (poi D (sq N).1.2)) (poi D (sq N).1.2).tape (poi D (sq N).1.2).drawn hst')
end
end Go.Proofs.Ytimkkeomdkbcjaa
