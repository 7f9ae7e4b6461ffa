/-
  A part of a proof. No condition of its own.
-/
import Derived.Test.YtofacoojpgkbiaaCBxP27
import Derived.Test.YtofacoojpgkbiaaCBxP19
set_option linter.unusedVariables false
set_option maxHeartbeats 8000000
set_option linter.unusedSimpArgs false
namespace Go.Proofs.Ytofacoojpgkbiaa
open Go.Conc Go.ChangeShapes Go.WideShapes Go.ChangeAt Go.RowKit
section
variable {H:Type} {enc:TypeId×Value→H}
theorem law_rm {C:Checked} {os:Os} {f:FuncId} {fn:Func} {s:ChangeSpec} {conds:List PathCond} {apart fresh handsOn:Bool} {tb:TypeId}
  (own:ownKnob C.prog.godebug=none) (started:os.Started)
  (witness:∃ (w:World) (tape:Tape) (i:Input),w.os=os∧(w.forCall tape i).Shaped C.prog∧i.vars=[]∧Input.okWide C.prog (w.forCall tape i) .any w.heap.size f i ∧
   s.pre6 enc C.prog fn conds apart (w.forCall tape i).memory i.args∧Assume.holds {} C.prog (lone (Frame.enter C.prog f i.args .normal) [] (w.forCall tape i)))
  (hfn:C.prog.funcs[f]?=some fn)
  (hl:laidOutB C.prog=true) (hr:∀ t∈fn.params.toList,C.prog.readableRec t=true∧t < C.prog.types.size) (hres:fn.resultTypes=#[tb]) (htb:C.prog.underlying tb=some .bool) (hv:s.vars=[])
  (hs:∀ ds:List (DataW H),ds.length=fn.params.size→s.fn H ds={ results:=[.lit (.bool true)],args:=ds })
  (walk:∀ (W:World) (base:Nat) (args:Array Value) (ds:List (DataW H)) (p:List MemPlace),
   (∀ (j:Nat) t v,fn.params[j]?=some t→args[j]?=some v→Value.okWide C.prog W .any base t v) →
   DataW.TrodAll enc C.prog W 0 (fun _=>true) true fn.params.toList args.toList ds p →
   (DataW.weightsEach C.prog fn.params.toList ds).all (·≤reachBytes)=true →
   RM C.prog (ZEnd C.prog fun v w'=>v = .bool true∧LeftW W w') (G (Frame.enter C.prog f args .normal) []) W) :
  ReturnsInLeavingWide {} C os f .any (s.pre6 enc C.prog fn conds apart) (s.post enc C.prog fn apart fresh handsOn false):=by
 refine returnsInLeavingWide_of_good own started witness ?_;intro w tape i _ _ _ hok hpre hholds;obtain ⟨_,_,_,fn',hfn',_,_,_,_,hval⟩:=hok;have e:fn'=fn:=yaw (hfn'.symm.trans hfn);subst e;obtain ⟨⟨ds,gs,before,hw,hc⟩,hz⟩:=hpre;have hsz:=hz.weights hw;have hW:DataW.Whole enc C.prog fn'.params.toList s.vars apart (w.forCall tape i) i.args.toList ds gs before:=DataW.Whole.of_heap (w':=w.forCall tape i) (by rfl) hw;generalize w.forCall tape i=W at *;have hW':=hW;obtain ⟨p,q,hA,hV,rfl,hfz,hnd⟩:=hW;rw [hv] at hV;obtain ⟨rfl,rfl⟩:=trodVars_none hV;have hvt:s.plain.varTypes C.prog=[]:=by
  have:s.plain.vars=[]:=hv;simp [DataSpec.varTypes,this]
 have hsz':(DataW.weightsEach C.prog fn'.params.toList ds).all (·≤reachBytes)=true:=by
  rw [show DataSpec.varTypes C.prog (OpenSpec.ofChange s).bare.plain=[] from hvt,List.append_nil,List.append_nil] at hsz;exact hsz
 have hlen:∀ {ts:List TypeId} {vs:List Value} {ds:List (DataW H)} {ps:List MemPlace},DataW.TrodAll enc C.prog W 0 (fun _=>true) true ts vs ds ps→ds.length=ts.length:=by
  intro ts
  induction ts with
  | nil=>intro vs ds ps h;cases vs<;>cases ds<;>first|rfl|exact h.elim
  | cons t ts ih =>
   intro vs ds ps h;cases vs with
   | nil=>exact h.elim
   | cons v vs =>
    cases ds with
    | nil=>exact h.elim
    | cons d ds=>obtain ⟨_,_,_,h2,_⟩:=h;simp [ih h2]
 obtain ⟨N,last,o,w',t',h1,h2,h3,v,ho,⟨hvv,hlow⟩,h4⟩:=rm_run (walk W _ i.args ds p hval hA hsz');refine ⟨N,last,o,w',t',h1,h2,h3,v,ho,?_,h4⟩;subst hvv;have hb:Below W.heap.size W (re W.tape W.drawn w'):=⟨hlow.outs.1,rfl,hlow.outs.2,hlow.size,hlow.same⟩;exact ChangeSpec.post_blind (W':=re W.tape W.drawn w') (zu2 (s:=s) hl hr hres htb hv (hs ds (by rw [hlen hA];simp)) hW' hb)
end
end Go.Proofs.Ytofacoojpgkbiaa
