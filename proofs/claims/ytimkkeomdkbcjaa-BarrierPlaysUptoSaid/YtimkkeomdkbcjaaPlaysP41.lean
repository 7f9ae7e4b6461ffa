/-
  Merged out of: Wrm. No condition of its own.
-/
import Derived.Test.YtimkkeomdkbcjaaPlaysP14
import Derived.Test.YtimkkeomdkbcjaaPlaysP15
import Derived.Test.YtimkkeomdkbcjaaPlaysP19
set_option linter.unusedVariables false
set_option linter.unusedSimpArgs false
/-
  A call of waits, beside goroutines that only leave. No condition of its own.
-/
namespace Go.Proofs.Ytimkkeomdkbcjaa
open Go.Conc Go.RowKit
def Low (w w' : World) : Prop := w.heap.size ≤ w'.heap.size ∧ (∀ b, b < w.heap.size → w'.heap[b]? = w.heap[b]?) ∧ w'.os = w.os ∧ w'.output = w.output
theorem Low.refl (w : World) : Low w w := ⟨Nat.le_refl _, fun _ _ => rfl, rfl, rfl⟩
theorem Low.trans {a b c : World} (h : Low a b) (k : Low b c) : Low a c := ⟨Nat.le_trans h.1 k.1, fun x hx => (k.2.1 x (Nat.lt_of_lt_of_le hx h.1)).trans (h.2.1 x hx), k.2.2.1.trans h.2.2.1, k.2.2.2.trans h.2.2.2⟩
theorem Low.of_below {w w' : World} (h : Below w.heap.size w w') : Low w w' := ⟨h.size, h.block, h.os, h.output⟩
theorem Low.re {w w' : World} {τ : Nat → Question → Nat} {d : Nat} (h : Low (re τ d w) w') : Low w w' := h
theorem Low.sim {w w' wp : World} (h : Low wp w') (hp : Sim wp w) : Low w w' := ⟨by rw [← hp.heap]; exact h.1, fun b hb => by rw [← hp.heap] at hb ⊢; exact h.2.1 b hb, h.2.2.1.trans hp.outs.1, h.2.2.2.trans hp.outs.2⟩
def waitsL : List FuncId := [9, 10, 11, 12, 13, 22, 23, 39, 40, 52, 54, 87, 88]
theorem prgW : PrgD false Try.prog (InL Try.prog [9, 10, 11, 12, 13, 22, 23, 39, 40, 52, 54, 87, 88]) :=
  prgD_of (Lb := [10, 11, 12, 13, 22, 23, 39, 40, 54]) (X := extL) (N := ["Step", "Load"]) ext_ok (by kernel_rfl) (by kernel_rfl) (by kernel_rfl) (by kernel_rfl) (by kernel_rfl)
theorem waits_runs {Z : Machine → Trace → Prop} {c : Frame} {cs : List Frame} {w : World} (h : ∀ w', Low w w' → RM Try.prog Z (G (c.finish (.bool true)) cs) w') : RM Try.prog Z (G (Frame.enter Try.prog 9 #[] .normal) (c :: cs)) w := by
  refine rm_enterD prgW (by simp) (hasBody_of (by kernel_rfl)) (R := fun v w' => v = .bool true ∧ Low w w') (fun v w' τ d ⟨e, q⟩ => ⟨e, q⟩) (fun τ d => (FF.waits_true (re τ d w)).mono fun e w' ⟨e1, hb⟩ => ⟨_, e1, rfl, (Low.of_below hb).re⟩) fun v w' ⟨e, q⟩ => ?_
  subst e
  exact h w' q
end Go.Proofs.Ytimkkeomdkbcjaa
