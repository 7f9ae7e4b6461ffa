/-
  The law CellNone returns true for every input, and leaves its argument. No condition.
-/
import Derived.Test.YtofacoojpgkbiaaCNonP27
import Derived.Test.YtofacoojpgkbiaaCNonP31
import Derived.Test.YtofacoojpgkbiaaCNonP30
set_option linter.unusedVariables false
set_option maxHeartbeats 8000000
set_option linter.unusedSimpArgs false
namespace Go.Proofs.Ytofacoojpgkbiaa.cellNone
open Go.ChangeShapes Go.WideShapes Go.ChangeAt Go.RowKit Go.Conc
theorem own:ownKnob Try.prog.godebug=none:=by kernel_rfl
theorem laidOut:laidOutB Try.prog=true:=by kernel_rfl
set_option maxRecDepth 100000 in
theorem lifted (os:Os) (started:os.Started) (H:Type) (enc:TypeId×Value→H) :
  ReturnsInLeavingWide {} Try.checked os 10 .any (Rows.cellNoneSpec.pre6 enc Try.prog Try.f10 Rows.cellNoneRow.domain false) (Rows.cellNoneSpec.post enc Try.prog Try.f10 false true false false):=by
 refine law_rm (C:=Try.checked) (tb:=4) own started
  (ChangeSpec.witness6 (enc:=enc) (C:=Try.checked) false ⟨#[],#[.slice none 0 0],[]⟩ 8 (by kernel_rfl) (by kernel_rfl) (by kernel_rfl) (by kernel_rfl))
  Try.func10 laidOut ?_ (by kernel_rfl) Try.underlying4 rfl ?_ ?_
 ·intro t ht;rw [Try.params10] at ht;simp at ht;rcases ht with rfl;exact ⟨by kernel_rfl,of_decide_eq_true (by kernel_rfl)⟩
 ·intro ds hds;rw [Try.params10] at hds
  match ds,hds with
  | [d1],_=>rfl
 ·intro W base args ds p hval0 hA0 _;have hval:∀ (j:Nat) t v,Try.f10.params[j]?=some t→args[j]?=some v→Value.okWide Try.prog W .any base t v:=hval0;have hA:DataW.TrodAll enc Try.prog W 0 (fun _=>true) true Try.f10.params.toList args.toList ds p:=hA0;rw [Try.params10] at hA hval;obtain ⟨v0,vs0,d0,ds0,p0,q0,hargs,rfl,rfl,h0,r0⟩:=trodAll_cons hA;obtain ⟨rfl,rfl,rfl⟩:=trodAll_nil r0;obtain rfl:args=#[v0]:=by cases args;simp_all
  obtain ⟨ao,len,cap,rfl⟩:=okWide_slice Try.underlying34 (hval 0 34 v0 rfl rfl);obtain ⟨_,t0⟩:=h0;obtain ⟨L,hin,hm⟩:=OpenB.open_ops t0;obtain rfl:len=L.length:=hin.2.1;exact zqv hin (by have:=hin.2.2.1;unfold maxLen at hm;omega) fun fr w' l hf hl=>rm_end (by rw [hf];exact zaa (z:=true) Try.func10) hl (by rw [hf];kernel_rfl) fun d=>⟨rfl,zpp _ _ l⟩
theorem over:Rows.cellNoneRow.holds Try.pinned (OpenSpec.ofChange Rows.cellNoneSpec) :=
 OpenClaim.holds_of_wide_leaving 10 Try.f10 rfl rfl rfl rfl rfl rfl rfl ⟨rfl,rfl,rfl,rfl,rfl⟩ rfl rfl rfl rfl rfl (by kernel_rfl) Try.func10 (by kernel_rfl)
  (of_decide_eq_true (by kernel_rfl)) (by unfold Func.isWrapper;first|(rw [if_pos (by decide +kernel)];kernel_rfl)|(rw [if_neg (by decide +kernel)];exact ⟨rfl,rfl⟩))
  (fun os started H enc _=>lifted os started H enc)
theorem proved:Rows.CellNoneSaid:=over
#print axioms proved
end Go.Proofs.Ytofacoojpgkbiaa.cellNone
