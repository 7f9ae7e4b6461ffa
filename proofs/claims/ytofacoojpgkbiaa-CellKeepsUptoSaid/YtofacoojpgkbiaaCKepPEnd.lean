/-
  The law CellKeeps returns true, and leaves its arguments, where they are of bulk at most 1048576.
-/
import Derived.Test.YtofacoojpgkbiaaCKepP34
import Derived.Test.YtofacoojpgkbiaaCKepP31
import Derived.Test.YtofacoojpgkbiaaCKepP35
set_option linter.unusedVariables false
set_option maxHeartbeats 8000000
set_option linter.unusedSimpArgs false
namespace Go.Proofs.Ytofacoojpgkbiaa.cellKeeps
open Go.ChangeShapes Go.WideShapes Go.ChangeAt Go.RowKit Go.Conc
theorem own:ownKnob Try.prog.godebug=none:=by kernel_rfl
theorem laidOut:laidOutB Try.prog=true:=by kernel_rfl
set_option maxRecDepth 100000 in
theorem lifted (os:Os) (started:os.Started) (H:Type) (enc:TypeId×Value→H) (F:Stop.Interp) :
  ReturnsInLeavingWide {} Try.checked os 11 .any ((Rows.OpenSpec.upto Rows.cellKeepsSpec).pre6 enc Try.prog Try.f11 Rows.cellKeepsUptoRow.domain false) (((Rows.OpenSpec.upto Rows.cellKeepsSpec).at F).post enc Try.prog Try.f11 false true false false):=by
 refine zqv (C:=Try.checked) (tb:=4) F own started
  (OpenSpec.witness (enc:=enc) (C:=Try.checked) (s:=Rows.OpenSpec.upto Rows.cellKeepsSpec) (k:=Rows.uptoSmall) rfl false ⟨#[],#[.agg #[.slice none 0 0,.slice none 0 0,.slice none 0 0,.int .i64 0],.agg #[.slice none 0 0,.slice none 0 0,.slice none 0 0,.int .i64 0]],[]⟩ 8 (by kernel_rfl) (by kernel_rfl) (by kernel_rfl)
   (x:=([.agg [.nil,.nil,.nil,.lit (.int .i64 0)],.agg [.nil,.nil,.nil,.lit (.int .i64 0)]],[],[])) (by kernel_rfl) rfl (by kernel_rfl))
  Try.func11 laidOut ?_ (by kernel_rfl) Try.underlying4 rfl ?_ ?_
 ·intro t ht;rw [Try.params11] at ht;simp at ht;rcases ht with rfl;exact ⟨by kernel_rfl,of_decide_eq_true (by kernel_rfl)⟩
 ·intro ds hds;rw [Try.params11] at hds
  match ds,hds with
  | [d1,d2],_=>rfl
 ·intro W base args ds p hval0 hA0 hk;have hval:∀ (j:Nat) t v,Try.f11.params[j]?=some t→args[j]?=some v→Value.okWide Try.prog W .any base t v:=hval0;have hA:DataW.TrodAll enc Try.prog W 0 (fun _=>true) true Try.f11.params.toList args.toList ds p:=hA0;rw [Try.params11] at hA hval;obtain ⟨v0,vs0,d0,ds0,p0,q0,hargs,rfl,rfl,h0,r0⟩:=trodAll_cons hA;obtain ⟨v1,vs1,d1,ds1,p1,q1,rfl,rfl,rfl,h1,r1⟩:=trodAll_cons r0;obtain ⟨rfl,rfl,rfl⟩:=trodAll_nil r1;obtain rfl:args=#[v0,v1]:=by cases args;simp_all
  simp only [Rows.uptoBulkAll] at hk;obtain ⟨vw,vt,vs,ws,LL,sch,most,rfl,hin,nw,nt,ns⟩:=OpenB.open_worldN (hval 0 71 v0 rfl rfl) h0 (by omega);obtain ⟨vw',vt',vs',ws',LL',sch',most',rfl,hin'⟩:=OpenB.open_world (hval 1 71 v1 rfl rfl) h1 (by omega);exact ztf hin nw nt ns hin' fun fr w' l hf hl=>rm_end (by rw [hf];exact zaa (z:=true) Try.func11) hl (by rw [hf];kernel_rfl) fun d=>⟨rfl,zkb _ _ l⟩
theorem proved:Rows.CellKeepsUptoSaid :=
 zgc 11 Try.f11 rfl rfl rfl rfl rfl rfl rfl ⟨rfl,rfl,rfl,rfl,rfl⟩ rfl rfl rfl rfl rfl (by kernel_rfl) Try.func11 (by kernel_rfl)
  (of_decide_eq_true (by kernel_rfl)) (by unfold Func.isWrapper;first|(rw [if_pos (by decide +kernel)];kernel_rfl)|(rw [if_neg (by decide +kernel)];exact ⟨rfl,rfl⟩))
  (fun os started H enc _ F=>lifted os started H enc F)
#print axioms proved
end Go.Proofs.Ytofacoojpgkbiaa.cellKeeps
