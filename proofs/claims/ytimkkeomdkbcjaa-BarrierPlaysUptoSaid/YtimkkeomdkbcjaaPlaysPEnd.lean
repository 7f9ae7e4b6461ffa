/-
  The law BarrierPlays returns true, and leaves its argument, where it is of bulk at most 1048576.
-/
import Derived.Test.YtimkkeomdkbcjaaPlaysP43
import Derived.Test.YtimkkeomdkbcjaaPlaysP36
import Derived.Test.YtimkkeomdkbcjaaPlaysP37
import Derived.Test.YtimkkeomdkbcjaaPlaysP40
set_option linter.unusedVariables false
set_option linter.unusedSimpArgs false
namespace Go.Proofs.Ytimkkeomdkbcjaa.barrierPlays
open Go.ChangeShapes Go.WideShapes Go.ChangeAt Go.RowKit Go.Conc
theorem own : ownKnob Try.prog.godebug = none := by kernel_rfl
theorem laidOut : laidOutB Try.prog = true := by kernel_rfl
theorem beginC : BeginC := fun base mb j tb ow vw vth vo va ws al t w hM h hb hops hi hans hlen => begin_walk hM h hb hops hi hans hlen
theorem stepC : StepC := fun w0 w N mb n j vw vth tb vo va ow ws al T h hj hR hlt hlen => step_walk beginC h hj hR hlt rfl hlen
set_option maxRecDepth 100000 in
theorem lifted (os : Os) (started : os.Started) (H : Type) (enc : TypeId × Value → H) (F : Stop.Interp) :
    ReturnsInLeavingWide {} Try.checked os 7 .any ((Rows.OpenSpec.upto Rows.barrierPlaysSpec).pre6 enc Try.prog Try.f7 Rows.barrierPlaysUptoRow.domain false) (((Rows.OpenSpec.upto Rows.barrierPlaysSpec).at F).post enc Try.prog Try.f7 false true false false) := by
  refine law_rm_upto (C := Try.checked) (tb := 4) F own started
    (OpenSpec.witness (enc := enc) (C := Try.checked) (s := Rows.OpenSpec.upto Rows.barrierPlaysSpec) (k := Rows.uptoSmall) rfl false ⟨#[], #[.agg #[.slice none 0 0, .slice none 0 0, .slice none 0 0, .int .i64 0]], []⟩ 8 (by kernel_rfl) (by kernel_rfl) (by kernel_rfl)
      (x := ([.agg [.nil, .nil, .nil, .lit (.int .i64 0)]], [], [])) (by kernel_rfl) rfl (by kernel_rfl))
    Try.func7 laidOut ?_ (by kernel_rfl) Try.underlying4 rfl ?_ ?_
  · intro t ht
    rw [Try.params7] at ht
    simp at ht
    rcases ht with rfl
    exact ⟨by kernel_rfl, of_decide_eq_true (by kernel_rfl)⟩
  · intro ds hds
    rw [Try.params7] at hds
    match ds, hds with
    | [d1], _ => rfl
  · intro W base args ds p hval0 hA0 hk
    have hval : ∀ (j : Nat) t v, Try.f7.params[j]? = some t → args[j]? = some v → Value.okWide Try.prog W .any base t v := hval0
    have hA : DataW.TrodAll enc Try.prog W 0 (fun _ => true) true Try.f7.params.toList args.toList ds p := hA0
    rw [Try.params7] at hA hval
    obtain ⟨v0, vs0, d0, ds0, p0, q0, hargs, rfl, rfl, h0, r0⟩ := trodAll_cons hA
    obtain ⟨rfl, rfl, rfl⟩ := trodAll_nil r0
    obtain rfl : args = #[v0] := by cases args; simp_all
    simp only [Rows.uptoBulkAll] at hk
    obtain ⟨vw, vt, vs, ws, LL, sch, most, rfl, hin⟩ := OpenB.open_world (hval 0 59 v0 rfl rfl) h0 (by omega)
    have hm := hin.im
    unfold In64 at hm
    exact plays_runs beginC stepC hin.iw hin.it hin.is hin.nil (Nat.le_trans hin.wn (by decide)) (Nat.le_trans hin.tn (by decide)) (fun L hL => Nat.le_trans (hin.on L hL) (by decide)) hin.sn (by omega)
theorem proved : Rows.BarrierPlaysUptoSaid :=
  holds_of_cond_leaving 7 Try.f7 rfl rfl rfl rfl rfl rfl rfl ⟨rfl, rfl, rfl, rfl, rfl⟩ rfl rfl rfl rfl rfl (by kernel_rfl) Try.func7 (by kernel_rfl)
    (of_decide_eq_true (by kernel_rfl)) (by unfold Func.isWrapper; first | (rw [if_pos (by decide +kernel)]; kernel_rfl) | (rw [if_neg (by decide +kernel)]; exact ⟨rfl, rfl⟩))
    (fun os started H enc _ F => lifted os started H enc F)
#print axioms proved
end Go.Proofs.Ytimkkeomdkbcjaa.barrierPlays
