/- Part of a proof. No condition. -/
import Derived.Test.YtofacoojpgkbiaaCCalP07
import Derived.Test.YtofacoojpgkbiaaCCalP20
set_option linter.unusedVariables false
set_option maxHeartbeats 8000000
set_option linter.unusedSimpArgs false
namespace Go.Proofs.Ytofacoojpgkbiaa
open Go.Conc Go.ChangeShapes Go.WideShapes Go.ChangeAt Go.RowKit
section
variable{H:Type}{enc:TypeId×Value→H}
theorem zr6{C:Checked}{os:Os}{f:FuncId}{fn:Func}{s:ChangeSpec}{conds:List PathCond}{apart fresh handsOn:Bool}{tb:TypeId}(F:Stop.Interp)
  (own:ownKnob C.prog.godebug=none) (started:os.Started)
  (witness:∃(w:World) (tape:Tape) (i:Input),w.os=os∧(w.forCall tape i).Shaped C.prog∧i.vars=[]∧Input.okWide C.prog (w.forCall tape i) .any w.heap.size f i ∧
   (Rows.OpenSpec.upto s).pre6 enc C.prog fn conds apart (w.forCall tape i).memory i.args∧Assume.holds {} C.prog (lone (Frame.enter C.prog f i.args .normal) [] (w.forCall tape i)))
  (hfn:C.prog.funcs[f]?=some fn)
  (hl:laidOutB C.prog=true) (hr:∀t∈fn.params.toList,C.prog.readableRec t=true∧t<C.prog.types.size) (hres:fn.resultTypes=#[tb]) (htb:C.prog.underlying tb=some .bool) (hv:s.vars=[])
  (hs:∀ds:List (DataW H),ds.length=fn.params.size→s.fn H ds={ results:=[.lit (.bool true)],args:=ds })
  (walk:∀(W:World) (base:Nat) (args:Array Value) (ds:List (DataW H)) (p:List MemPlace),
   (∀(j:Nat) t v,fn.params[j]?=some t→args[j]?=some v→Value.okWide C.prog W .any base t v) →
   DataW.TrodAll enc C.prog W 0 (fun _=>true) true fn.params.toList args.toList ds p→Rows.uptoBulkAll ds≤1048576 →
   RM C.prog (z7f C.prog fun v w'=>v = .bool true∧LeftW W w') (G (Frame.enter C.prog f args .normal) []) W) :
  ReturnsInLeavingWide {} C os f .any ((Rows.OpenSpec.upto s).pre6 enc C.prog fn conds apart) (((Rows.OpenSpec.upto s).at F).post enc C.prog fn apart fresh handsOn false):=by
 refine returnsInLeavingWide_of_good own started witness ?_;intro w tape i _ _ _ qj qf qe;obtain⟨_,_,_,fn',qc,_,_,_,_,qd⟩:=qj;have e:fn'=fn:=yaw (qc.symm.trans hfn);subst e;obtain⟨ds,gs,before,hw,hc,qg⟩:=(OpenSpec.pre_some (s:=Rows.OpenSpec.upto s) (k:=Rows.uptoSmall) rfl conds apart _ _).1 qf.1;have hW:DataW.Whole enc C.prog fn'.params.toList s.vars apart (w.forCall tape i) i.args.toList ds gs before:=DataW.Whole.of_heap (w':=w.forCall tape i) (by rfl) hw;generalize w.forCall tape i=W at *;have qh:=hW;obtain⟨p,q,hA,hV,rfl,hfz,hnd⟩:=hW;rw[hv] at hV;obtain⟨rfl,rfl⟩:=trodVars_none hV;have qo:∀{ts:List TypeId} {vs:List Value} {ds:List (DataW H)} {ps:List MemPlace},DataW.TrodAll enc C.prog W 0 (fun _=>true) true ts vs ds ps→ds.length=ts.length:=by
  intro ts
  induction ts with
  | nil=>intro vs ds ps h;cases vs<;>cases ds<;>first|rfl|exact h.elim
  | cons t ts ih =>
   intro vs ds ps h;cases vs with
   | nil=>exact h.elim
   | cons v vs =>
    cases ds with
    | nil=>exact h.elim
    | cons d ds=>obtain⟨_,_,_,h2,_⟩:=h;simp[ih h2]
 have qb:Rows.uptoBulkAll ds≤1048576:=by rw[List.append_nil] at qg;exact of_decide_eq_true qg
 obtain⟨N,last,o,w',t',h1,h2,h3,v,ho,⟨qi,qa⟩,h4⟩:=z4p (walk W _ i.args ds p qd hA qb);refine⟨N,last,o,w',t',h1,h2,h3,v,ho,?_,h4⟩;subst qi;have hb:Below W.heap.size W (re W.tape W.drawn w'):=⟨qa.outs.1,rfl,qa.outs.2,qa.size,qa.same⟩;exact ChangeSpec.post_blind (W':=re W.tape W.drawn w') (zzv (s:=s) hl hr hres htb hv (hs ds (by rw[qo hA];simp)) qh hb)
end
end Go.Proofs.Ytofacoojpgkbiaa
