/-
  Merged out of: CoD. No condition of its own.
-/
import Derived.Test.YtimkkeomdkbcjaaPlaysP09
import Derived.Test.YtimkkeomdkbcjaaPlaysP04
import Derived.Test.YtimkkeomdkbcjaaPlaysP06
set_option linter.unusedVariables false
set_option linter.unusedSimpArgs false
/-
  A call of code that calls through interfaces, beside goroutines that only leave: by its fenced contract. No condition of its own.
-/
namespace Go.Proofs.Ytimkkeomdkbcjaa
open Go.Conc
section
variable {z : Bool} {P : Program} {L Lb X : List FuncId} {N : List String}
def calmBD (z : Bool) (P : Program) (Lb X : List FuncId) (N : List String) (o : Op) : Bool := calmB z P Lb X o || (match o with
  | .call { callee := .invoke _ n, .. } => N.contains n
  | _ => false)
theorem opB_of {n : Next} (hL : ∀ f, f ∈ L → HasBody P f) (h : OpOk (· ∈ L) n) : OpB P n := by
  cases n <;> first | exact h | exact hL _ h
theorem calmD_of {C : FuncId → Prop} (hX : ExtOk z P X) (hM : MethodsOk P N) (hLb : ∀ f, f ∈ Lb → HasBody P f) {o : Oper} (h : calmBD z P Lb X N o.op = true) : CalmOpD z P C o := by
  unfold calmBD at h
  rw [Bool.or_eq_true] at h
  rcases h with h | h
  · obtain ⟨h1, h2⟩ := calm_of (L := Lb) hX h
    exact ⟨h1, fun fr => tame_mono (fun n hn => opB_of hLb hn) (h2 fr)⟩
  · obtain ⟨dst, op, ty, pos, after, guard⟩ := o
    simp only at h
    cases op with
    | call c =>
      obtain ⟨callee, args, ats⟩ := c
      cases callee with
      | invoke r name =>
        refine ⟨fun c e => (by cases e), fun fr => ?_⟩
        show Tame z P _ (invoke (.fn (.method name) #[]) (#[fr.eval r] ++ args.map fr.eval))
        unfold invoke
        dsimp only
        split
        · exact t_callMethod hM _ (List.contains_iff_mem.1 h) _
        · exact True.intro
      | _ => cases h
    | _ => cases h
def calmCodeBD (z : Bool) (P : Program) (Lb X : List FuncId) (N : List String) : Code → Bool
  | .skip | .label _ | .ret | .exit _ => true
  | .seq a b => calmCodeBD z P Lb X N a && calmCodeBD z P Lb X N b
  | .cond _ a b => calmCodeBD z P Lb X N a && calmCodeBD z P Lb X N b
  | .block _ c => calmCodeBD z P Lb X N c
  | .loop c => calmCodeBD z P Lb X N c
  | .region _ ops _ => ops.toList.all fun o => calmBD z P Lb X N o.op
  | _ => false
def calmFnBD (z : Bool) (P : Program) (Lb X : List FuncId) (N : List String) (f : FuncId) : Bool := match (P.funcs[f]?).bind (·.body) with
  | some c => calmCodeBD z P Lb X N c
  | none => true
theorem calmCodeD_of {C : FuncId → Prop} (hX : ExtOk z P X) (hM : MethodsOk P N) (hLb : ∀ f, f ∈ Lb → HasBody P f) : ∀ {c : Code}, calmCodeBD z P Lb X N c = true → CalmCodeD z P C c
  | .skip, _ => trivial
  | .label _, _ => trivial
  | .ret, _ => trivial
  | .exit _, _ => trivial
  | .seq a b, h => by
    simp only [calmCodeBD, Bool.and_eq_true] at h
    exact ⟨calmCodeD_of hX hM hLb h.1, calmCodeD_of hX hM hLb h.2⟩
  | .cond _ a b, h => by
    simp only [calmCodeBD, Bool.and_eq_true] at h
    exact ⟨calmCodeD_of hX hM hLb h.1, calmCodeD_of hX hM hLb h.2⟩
  | .block _ c, h => calmCodeD_of hX hM hLb (c := c) h
  | .loop c, h => calmCodeD_of hX hM hLb (c := c) h
  | .region _ ops _, h => fun o ho => calmD_of hX hM hLb (List.all_eq_true.1 h o (Array.mem_toList_iff.2 ho))
  | .rangeFunc .., h => by cases h
  | .scope _, h => by cases h
  | .goto _, h => by cases h
  | .refuse _, h => by cases h
def InL (P : Program) (L : List FuncId) (f : FuncId) : Prop := f ∈ L ∨ f = P.funcs.size
theorem prgD_of (hX : ExtOk z P X) (h1 : P.follows .staticDataAhead = true) (h : P.funcs.toList.all (fun f => ((f.body.map readies).getD []).isEmpty) = true) (hM : methodsB P N = true) (hLb : Lb.all (bodyB P) = true) (hL : L.all (calmFnBD z P Lb X N) = true) : PrgD z P (InL P L) := by
  refine ⟨early_ended h1 h, fun f hf hb => ?_⟩
  obtain ⟨fn, c, e1, e2, _⟩ := hb
  rcases hf with hf | rfl
  · have h2 := List.all_eq_true.1 hL f hf
    unfold calmFnBD at h2
    rw [e1] at h2
    simp only [Option.bind_some, e2] at h2
    exact ⟨⟨fn, c, e1, e2, calmCodeD_of hX (methodsOk_of hM) (fun g hg => hasBody_of (List.all_eq_true.1 hLb g hg)) h2⟩, calmRes_of e1⟩
  · rw [Array.getElem?_eq_none (Nat.le_refl _)] at e1
    cases e1
theorem good_callsD {f : FuncId} {args : Array Value} {w : World} {R : Value → World → Prop} (h : ∀ τ d, CallsIn (Fence.list L none) 0 P f args (re τ d w) fun e w' => ∃ v, e = .returned v ∧ R v w') : GoodSD .fn P (InL P L) (StFD P f R) (Frame.enter P f args .normal, []) w := fun τ d => by
  obtain ⟨e, w', fr, ⟨v, rfl, hv⟩, hs, hf, hl⟩ := (h τ d).2 [cb] (fun d hd => by cases hd)
  obtain ⟨n, hn, hall⟩ := comes_fenced hs
  have e1 : SK .fn (Frame.enter P f args .normal, []) (re τ d w) = lone (Frame.enter P f args .normal) [cb] (re τ d w) := by
    show solo (G (more (Frame.enter P f args .normal) []) [cb]) _ = _
    rw [more_nil]; rfl
  have e2 : SK .fn (fr, []) w' = lone fr [cb] w' := by
    show solo (G (more fr []) [cb]) _ = _
    rw [more_nil]; rfl
  refine ⟨n, (fr, []), w', ⟨by rw [e1, e2]; exact hn, fun k hk mk hm g hg => ?_⟩, rfl, hf, v, hl, hv⟩
  rw [e1] at hm
  exact (hall k hk mk hm g hg).2.1
variable {C : FuncId → Prop}
theorem fut_enterD (hP : PrgD z P (InL P L)) {f : FuncId} (hf : f ∈ L) (hb : HasBody P f) {args : Array Value} {w : World} {R : Value → World → Prop} (hR : ∀ v, NoTape (R v)) (h : ∀ τ d, CallsIn (Fence.list L none) 0 P f args (re τ d w) fun e w' => ∃ v, e = .returned v ∧ R v w') (cs : List Frame) (main : Bool) :
    Fut P main DL (fun g w' => ∃ fr v, g = G fr cs ∧ fr.fn = f ∧ fr.leaving P w' (.returned v) ∧ R v w') (G (Frame.enter P f args .normal) cs) w := by
  have hc := hP.fns f (.inl hf) hb
  have hg := good_callsD h
  have h0 : CalmSD z P (InL P L) (Frame.enter P f args .normal, []) := ⟨fun _ => calm_enterD hc args, by simp⟩
  have := fut_of_goodD hP (y := .fn) (St := StFD P f R) (fun s w τ d ⟨a, b, v, c, e⟩ => ⟨a, b, v, leaving_re (by rw [b]; exact hc.res) c τ d, hR v _ _ _ e⟩) h0 hg [] rfl cs main
  have e1 : GK (Frame.enter P f args .normal) [] [] cs = G (Frame.enter P f args .normal) cs := by
    show G (more _ []) cs = _
    rw [more_nil]
  rw [e1] at this
  refine this.mono fun g w' ⟨s', e, hs1, hs2, v, hl, hv⟩ => ⟨s'.1, v, ?_, hs2, hl, hv⟩
  rw [e]
  unfold GK
  rw [hs1]
  show G (more s'.1 []) cs = _
  rw [more_nil]
variable {Z : Machine → Trace → Prop} {c : Frame} {cs : List Frame} {w : World}
theorem rm_enterD (hP : PrgD z P (InL P L)) {f : FuncId} (hf : f ∈ L) (hb : HasBody P f) {args : Array Value} {R : Value → World → Prop} (hR : ∀ v, NoTape (R v)) (h : ∀ τ d, CallsIn (Fence.list L none) 0 P f args (re τ d w) fun e w' => ∃ v, e = .returned v ∧ R v w')
    (cont : ∀ v w', R v w' → RM P Z (G (c.finish v) cs) w') : RM P Z (G (Frame.enter P f args .normal) (c :: cs)) w := by
  refine rm_xc.closed _ _ ((fut_enterD hP hf hb hR h (c :: cs) true).bind fun g w' ⟨fr, v, e, hfn, hl, hv⟩ => ?_)
  subst e
  have hres : CalmRes z P fr.fn := by rw [hfn]; exact (hP.fns f (.inl hf) hb).res
  refine Fut.step' rfl fun d' => ?_
  have hl' := leaving_re hres hl w'.tape d'
  obtain ⟨es, hes, hst⟩ := step_return (c := c) (cs := cs) hres hl' true
  exact ⟨_, _, es, hst, dl_of hes, .stop (cont v _ (hR v _ _ _ hv))⟩
end
end Go.Proofs.Ytimkkeomdkbcjaa
