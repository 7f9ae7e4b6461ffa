/-
  The law CellPlays returns true, and leaves its argument, where it is of bulk at most 1048576.
-/
import Derived.Test.YtofacoojpgkbiaaCPlsP39
import Derived.Test.YtofacoojpgkbiaaCPlsP40
import Derived.Test.YtofacoojpgkbiaaCPlsP42
set_option linter.unusedVariables false
set_option maxHeartbeats 8000000
set_option linter.unusedSimpArgs false
namespace Go.Proofs.Ytofacoojpgkbiaa.cellPlays
open Go.ChangeShapes Go.WideShapes Go.ChangeAt Go.RowKit Go.Conc
theorem own:ownKnob Try.prog.godebug=none:=by kernel_rfl
theorem laidOut:laidOutB Try.prog=true:=by kernel_rfl
theorem thr_ok {w:World} {v:Value} {LL:List (List OpD)} (h:ThrIn w v LL):∀ L∈LL,∀ o∈L,o.Ok:=by
 obtain ⟨a,cap,e,ob,ln,cp,_,q⟩:=h;intro L hL;obtain ⟨i,hi,rfl⟩:=List.getElem_of_mem hL;exact (q i _ (List.getElem?_eq_getElem hi)).1
set_option maxRecDepth 100000 in
theorem lifted (os:Os) (started:os.Started) (H:Type) (enc:TypeId×Value→H) (F:Stop.Interp) :
  ReturnsInLeavingWide {} Try.checked os 7 .any ((Rows.OpenSpec.upto Rows.cellPlaysSpec).pre6 enc Try.prog Try.f7 Rows.cellPlaysUptoRow.domain false) (((Rows.OpenSpec.upto Rows.cellPlaysSpec).at F).post enc Try.prog Try.f7 false true false false):=by
 refine zqa (C:=Try.checked) (tb:=4) F own started
  (OpenSpec.witness (enc:=enc) (C:=Try.checked) (s:=Rows.OpenSpec.upto Rows.cellPlaysSpec) (k:=Rows.uptoSmall) rfl false ⟨#[],#[.agg #[.slice none 0 0,.slice none 0 0,.slice none 0 0,.int .i64 0]],[]⟩ 8 (by kernel_rfl) (by kernel_rfl) (by kernel_rfl)
   (x:=([.agg [.nil,.nil,.nil,.lit (.int .i64 0)]],[],[])) (by kernel_rfl) rfl (by kernel_rfl))
  Try.func7 laidOut ?_ (by kernel_rfl) Try.underlying4 rfl ?_ ?_
 ·intro t ht;rw [Try.params7] at ht;simp at ht;rcases ht with rfl;exact ⟨by kernel_rfl,of_decide_eq_true (by kernel_rfl)⟩
 ·intro ds hds;rw [Try.params7] at hds
  match ds,hds with
  | [d1],_=>rfl
 ·intro W base args ds p hval0 hA0 hk;have hval:∀ (j:Nat) t v,Try.f7.params[j]?=some t→args[j]?=some v→Value.okWide Try.prog W .any base t v:=hval0;have hA:DataW.TrodAll enc Try.prog W 0 (fun _=>true) true Try.f7.params.toList args.toList ds p:=hA0;rw [Try.params7] at hA hval;obtain ⟨v0,vs0,d0,ds0,p0,q0,hargs,rfl,rfl,h0,r0⟩:=trodAll_cons hA;obtain ⟨rfl,rfl,rfl⟩:=trodAll_nil r0;obtain rfl:args=#[v0]:=by cases args;simp_all
  simp only [Rows.uptoBulkAll] at hk;obtain ⟨vw,vt,vs,ws,LL,sch,most,rfl,hin⟩:=OpenB.open_world (hval 0 71 v0 rfl rfl) h0 (by omega);have hm:=hin.im;unfold zch at hm;exact Cl.plays_runs hin.iw hin.it hin.is (Nat.le_trans hin.wn (by decide)) (Nat.le_trans hin.tn (by decide)) (thr_ok hin.it) hin.sn (by omega)
theorem proved:Rows.CellPlaysUptoSaid :=
 zf4 7 Try.f7 rfl rfl rfl rfl rfl rfl rfl ⟨rfl,rfl,rfl,rfl,rfl⟩ rfl rfl rfl rfl rfl (by kernel_rfl) Try.func7 (by kernel_rfl)
  (of_decide_eq_true (by kernel_rfl)) (by unfold Func.isWrapper;first|(rw [if_pos (by decide +kernel)];kernel_rfl)|(rw [if_neg (by decide +kernel)];exact ⟨rfl,rfl⟩))
  (fun os started H enc _ F=>lifted os started H enc F)
#print axioms proved
end Go.Proofs.Ytofacoojpgkbiaa.cellPlays
