/-
  The law CellCalls returns true, and leaves its arguments, where they are of bulk at most 1048576.
-/
import Derived.Test.YtofacoojpgkbiaaCCalP38
import Derived.Test.YtofacoojpgkbiaaCCalP39
import Derived.Test.YtofacoojpgkbiaaCCalP41
set_option linter.unusedVariables false
set_option maxHeartbeats 8000000
set_option linter.unusedSimpArgs false
namespace Go.Proofs.Ytofacoojpgkbiaa.cellCalls
open Go.ChangeShapes Go.WideShapes Go.ChangeAt Go.RowKit Go.Conc Go.Deep
theorem own:ownKnob Try.prog.godebug=none:=by kernel_rfl
theorem z20:laidOutB Try.prog=true:=by kernel_rfl
theorem zzn{H:Type}{enc:TypeId×Value→H}{W:World}{held:Bool}{n:Nat}{t e:TypeId}(ht:Try.prog.underlying t=some (.slice e)){v:Value}{y:DataW H×List MemPlace}(h:DataW.trod enc Try.prog W 0 (fun _=>true) held n t [v]=some y):∀k c,v = .slice none k c→c=0:=by
 rintro k c rfl;rcases DataW.trod_slice ht h with⟨e1,_⟩|⟨a,len,cap,elems,rest,n,_,e1,_⟩
 ·simp at e1;exact e1.2
 ·simp at e1
set_option maxRecDepth 100000 in
theorem z48(os:Os)(started:os.Started)(H:Type)(enc:TypeId×Value→H)(F:Stop.Interp) :
  ReturnsInLeavingWide {} Try.checked os 8 .any ((Rows.OpenSpec.upto Rows.cellCallsSpec).pre6 enc Try.prog Try.f8 Rows.cellCallsUptoRow.domain false) (((Rows.OpenSpec.upto Rows.cellCallsSpec).at F).post enc Try.prog Try.f8 false true false false):=by
 refine zr6 (C:=Try.checked) (tb:=4) F own started
  (OpenSpec.witness (enc:=enc) (C:=Try.checked) (s:=Rows.OpenSpec.upto Rows.cellCallsSpec) (k:=Rows.uptoSmall) rfl false ⟨#[],#[.int .i64 0,.slice none 0 0],[]⟩ 8 (by kernel_rfl) (by kernel_rfl) (by kernel_rfl)
   (x:=([.lit (.int .i64 0),.nil],[],[])) (by kernel_rfl) rfl (by kernel_rfl))
  Try.func8 z20 ?_ (by kernel_rfl) Try.underlying4 rfl ?_ ?_
 ·intro t ht;rw[Try.params8] at ht;simp at ht;rcases ht with rfl|rfl
  ·exact⟨by kernel_rfl,of_decide_eq_true (by kernel_rfl)⟩
  ·exact⟨by kernel_rfl,of_decide_eq_true (by kernel_rfl)⟩
 ·intro ds qe;rw[Try.params8] at qe
  match ds,qe with
  | [d1,d2],_=>rfl
 ·intro W base args ds p qb qg hk;have qa:∀(j:Nat) t v,Try.f8.params[j]?=some t→args[j]?=some v→Value.okWide Try.prog W .any base t v:=qb;have hA:DataW.TrodAll enc Try.prog W 0 (fun _=>true) true Try.f8.params.toList args.toList ds p:=qg;rw[Try.params8] at hA qa;obtain⟨v0,vs0,d0,ds0,p0,q0,qf,rfl,rfl,h0,r0⟩:=trodAll_cons hA;obtain⟨v1,vs1,d1,ds1,p1,q1,rfl,rfl,rfl,h1,r1⟩:=trodAll_cons r0;obtain⟨rfl,rfl,rfl⟩:=trodAll_nil r1;obtain rfl:args=#[v0,v1]:=by cases args;simp_all
  simp only[Rows.uptoBulkAll] at hk;obtain⟨z,rfl⟩:=okWide_int Try.underlying2 (qa 0 2 v0 rfl rfl);obtain⟨ao,len,cap,rfl⟩:=okWide_slice Try.underlying34 (qa 1 34 v1 rfl rfl);obtain⟨_,t0⟩:=h0;obtain⟨_,t1⟩:=h1;have qh:DataW.trod enc Try.prog W 0 (fun _=>true) true _ 2 [.int .i64 z]=some (d0,p0):=t0;have qc:DataW.trod enc Try.prog W 0 (fun _=>true) true _ 34 [.slice ao len cap]=some (d1,p1):=t1;obtain⟨z',e,hz⟩:=OpenB.int_one Try.underlying2 qh;simp only[List.cons.injEq,Value.int.injEq,and_true,true_and] at e;subst e;obtain⟨L,qd,hm⟩:=OpenB.open_ops qc;have hb:=OpenB.ops_bulk qc;have hn:=zzn Try.underlying34 qc;obtain rfl:len=L.length:=qd.2.1;exact zsj hz qd (fun e=>hn _ _ (by rw[e])) (by omega) fun fr w' l hf hl=>z4q (by rw[hf];exact zaa (z:=true) Try.func8) hl (by rw[hf];kernel_rfl) fun d=>⟨rfl,zta _ _ l⟩
theorem proved:Rows.CellCallsUptoSaid :=
 zgt 8 Try.f8 rfl rfl rfl rfl rfl rfl rfl ⟨rfl,rfl,rfl,rfl,rfl⟩ rfl rfl rfl rfl rfl (by kernel_rfl) Try.func8 (by kernel_rfl)
  (of_decide_eq_true (by kernel_rfl)) (by unfold Func.isWrapper;first|(rw[if_pos (by decide +kernel)];kernel_rfl)|(rw[if_neg (by decide +kernel)];exact⟨rfl,rfl⟩))
  (fun os started H enc _ F=>z48 os started H enc F)
#print axioms proved
end Go.Proofs.Ytofacoojpgkbiaa.cellCalls
