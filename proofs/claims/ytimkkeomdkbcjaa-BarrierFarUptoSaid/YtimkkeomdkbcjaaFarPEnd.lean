/-
  The law BarrierFar returns true, and leaves its arguments, where they are of bulk at most 1048576.
-/
import Derived.Test.YtimkkeomdkbcjaaFarP42
import Derived.Test.YtimkkeomdkbcjaaFarP39
namespace Go.Proofs.Ytimkkeomdkbcjaa.barrierFar
open Go.ChangeShapes Go.WideShapes Go.ChangeAt Go.RowKit Go.Conc
set_option linter.unusedVariables false

theorem own : ownKnob Try.prog.godebug = none := by kernel_rfl
theorem laidOut : laidOutB Try.prog = true := by kernel_rfl
set_option maxRecDepth 100000 in
theorem lifted (os : Os) (started : os.Started) (H : Type) (enc : TypeId × Value → H) (F : Stop.Interp) :
    ReturnsInLeavingWide {} Try.checked os 8 .any ((Rows.OpenSpec.upto Rows.barrierFarSpec).pre6 enc Try.prog Try.f8 Rows.barrierFarUptoRow.domain false) (((Rows.OpenSpec.upto Rows.barrierFarSpec).at F).post enc Try.prog Try.f8 false true false false) := by
  refine law_rm_upto (C := Try.checked) (tb := 4) F own started
    (OpenSpec.witness (enc := enc) (C := Try.checked) (s := Rows.OpenSpec.upto Rows.barrierFarSpec) (k := Rows.uptoSmall) rfl false ⟨#[], #[.slice none 0 0, .slice none 0 0, .slice none 0 0], []⟩ 8 (by kernel_rfl) (by kernel_rfl) (by kernel_rfl)
      (x := ([.nil, .nil, .nil], [], [])) (by kernel_rfl) rfl (by kernel_rfl))
    Try.func8 laidOut ?_ (by kernel_rfl) Try.underlying4 rfl ?_ ?_
  · intro t ht
    rw [Try.params8] at ht
    simp at ht
    rcases ht with rfl | rfl | rfl
    · exact ⟨by kernel_rfl, of_decide_eq_true (by kernel_rfl)⟩
    · exact ⟨by kernel_rfl, of_decide_eq_true (by kernel_rfl)⟩
    · exact ⟨by kernel_rfl, of_decide_eq_true (by kernel_rfl)⟩
  · intro ds hds
    rw [Try.params8] at hds
    match ds, hds with
    | [d1, d2, d3], _ => rfl
  · intro W base args ds p hval0 hA0 hk
    have hval : ∀ (j : Nat) t v, Try.f8.params[j]? = some t → args[j]? = some v → Value.okWide Try.prog W .any base t v := hval0
    have hA : DataW.TrodAll enc Try.prog W 0 (fun _ => true) true Try.f8.params.toList args.toList ds p := hA0
    rw [Try.params8] at hA hval
    obtain ⟨v0, vs0, d0, ds0, p0, q0, hargs, rfl, rfl, h0, r0⟩ := trodAll_cons hA
    obtain ⟨v1, vs1, d1, ds1, p1, q1, rfl, rfl, rfl, h1, r1⟩ := trodAll_cons r0
    obtain ⟨v2, vs2, d2, ds2, p2, q2, rfl, rfl, rfl, h2, r2⟩ := trodAll_cons r1
    obtain ⟨rfl, rfl, rfl⟩ := trodAll_nil r2
    obtain rfl : args = #[v0, v1, v2] := by cases args; simp_all
    obtain ⟨a0, len0, cap0, rfl⟩ := okWide_slice Try.underlying26 (hval 0 26 v0 rfl rfl)
    obtain ⟨a1, len1, cap1, rfl⟩ := okWide_slice Try.underlying56 (hval 1 56 v1 rfl rfl)
    obtain ⟨a2, len2, cap2, rfl⟩ := okWide_slice Try.underlying57 (hval 2 57 v2 rfl rfl)
    simp only [Rows.uptoBulkAll] at hk
    obtain ⟨_, t0⟩ := h0
    obtain ⟨_, t1⟩ := h1
    obtain ⟨_, t2⟩ := h2
    obtain ⟨zs, hB, hc0, hb0⟩ := OpenB.open_bytes t0
    obtain ⟨LL, rfl, hc1, hT, hb1⟩ := OpenB.open_thr t1
    obtain ⟨sch, rfl, hc2, hS, hb2⟩ := OpenB.open_nums Try.underlying57 Try.underlying3 OpenB.cells3 t2
    exact far_runs hB hc0 (by omega) hT (fun a c e => by cases e; exact hc1) (by omega) hS (by omega)

/-- The statement. -/
theorem proved : Rows.BarrierFarUptoSaid :=
  holds_of_cond_leaving 8 Try.f8 rfl rfl rfl rfl rfl rfl rfl ⟨rfl, rfl, rfl, rfl, rfl⟩ rfl rfl rfl rfl rfl (by kernel_rfl) Try.func8 (by kernel_rfl)
    (of_decide_eq_true (by kernel_rfl)) (by unfold Func.isWrapper; first | (rw [if_pos (by decide +kernel)]; kernel_rfl) | (rw [if_neg (by decide +kernel)]; exact ⟨rfl, rfl⟩))
    (fun os started H enc _ F => lifted os started H enc F)
#print axioms proved
end Go.Proofs.Ytimkkeomdkbcjaa.barrierFar
