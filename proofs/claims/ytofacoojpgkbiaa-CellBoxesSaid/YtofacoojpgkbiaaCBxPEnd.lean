/-
  The law CellBoxes returns true for every input, and leaves its argument. No condition.
-/
import Derived.Test.YtofacoojpgkbiaaCBxP29
import Derived.Test.YtofacoojpgkbiaaCBxP30
set_option linter.unusedVariables false
set_option maxHeartbeats 8000000
set_option linter.unusedSimpArgs false
namespace Go.Proofs.Ytofacoojpgkbiaa.cellBoxes
open Go.ChangeShapes Go.WideShapes Go.ChangeAt Go.RowKit Go.Conc
theorem own:ownKnob Try.prog.godebug=none:=by kernel_rfl
theorem laidOut:laidOutB Try.prog=true:=by kernel_rfl
set_option maxRecDepth 100000 in
theorem lifted (os:Os) (started:os.Started) (H:Type) (enc:TypeId×Value→H) :
  ReturnsInLeavingWide {} Try.checked os 9 .any (Rows.cellBoxesSpec.pre6 enc Try.prog Try.f9 Rows.cellBoxesRow.domain false) (Rows.cellBoxesSpec.post enc Try.prog Try.f9 false true false false):=by
 refine law_rm (C:=Try.checked) (tb:=4) own started
  (ChangeSpec.witness6 (enc:=enc) (C:=Try.checked) false ⟨#[],#[.slice none 0 0],[]⟩ 8 (by kernel_rfl) (by kernel_rfl) (by kernel_rfl) (by kernel_rfl))
  Try.func9 laidOut ?_ (by kernel_rfl) Try.underlying4 rfl ?_ ?_
 ·intro t ht;rw [Try.params9] at ht;simp at ht;rcases ht with rfl;exact ⟨by kernel_rfl,of_decide_eq_true (by kernel_rfl)⟩
 ·intro ds hds;rw [Try.params9] at hds
  match ds,hds with
  | [d1],_=>rfl
 ·intro W base args ds p hval0 hA0 _;have hval:∀ (j:Nat) t v,Try.f9.params[j]?=some t→args[j]?=some v→Value.okWide Try.prog W .any base t v:=hval0;have hA:DataW.TrodAll enc Try.prog W 0 (fun _=>true) true Try.f9.params.toList args.toList ds p:=hA0;rw [Try.params9] at hA hval;obtain ⟨v0,vs0,d0,ds0,p0,q0,hargs,rfl,rfl,h0,r0⟩:=trodAll_cons hA;obtain ⟨rfl,rfl,rfl⟩:=trodAll_nil r0;obtain rfl:args=#[v0]:=by cases args;simp_all
  obtain ⟨ao,len,cap,rfl⟩:=okWide_slice Try.underlying87 (hval 0 87 v0 rfl rfl);obtain ⟨_,t0⟩:=h0;obtain ⟨L,hin,rfl,hlc,hm⟩:=OpenB.open_pairs t0;exact PB.boxes_runs hin (by unfold maxLen at hm;omega) fun fr w' l hf hl=>rm_end (by rw [hf];exact zaa (z:=true) Try.func9) hl (by rw [hf];kernel_rfl) fun d=>⟨rfl,zu1 _ _ l⟩
theorem over:Rows.cellBoxesRow.holds Try.pinned (OpenSpec.ofChange Rows.cellBoxesSpec) :=
 OpenClaim.holds_of_wide_leaving 9 Try.f9 rfl rfl rfl rfl rfl rfl rfl ⟨rfl,rfl,rfl,rfl,rfl⟩ rfl rfl rfl rfl rfl (by kernel_rfl) Try.func9 (by kernel_rfl)
  (of_decide_eq_true (by kernel_rfl)) (by unfold Func.isWrapper;first|(rw [if_pos (by decide +kernel)];kernel_rfl)|(rw [if_neg (by decide +kernel)];exact ⟨rfl,rfl⟩))
  (fun os started H enc _=>lifted os started H enc)
theorem proved:Rows.CellBoxesSaid:=over
#print axioms proved
end Go.Proofs.Ytofacoojpgkbiaa.cellBoxes
