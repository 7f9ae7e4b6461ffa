/-
  The reference's form (f65), whole.
-/
import Derived.Test.YtdmhlhoimaeacaaDoorRefForm
namespace Go.Proofs.YtdmhlhoimaeacaaDoor
open Go.RowKit Go.Maps
set_option linter.unusedVariables false

theorem form_walk (N : Nat) (o : Opn) (w : World) (hE : Env N w) (ho : In64O o) (hs : saysF o = true) : Calls Tryd.prog 65 #[.agg #[.int .i64 o.k, .int .i64 o.a, .int .i64 o.b, .int .i64 o.c]] w fun e w' => e = .returned (.string ⟨(tellD o).toArray⟩) ∧ Below w.heap.size w w' := by
  have hR := hs
  rw [says_same o ho] at hR
  obtain ⟨k, a, b, c⟩ := o
  by_cases h1 : k = 1
  · subst h1; exact form_1 N a b c w hE ho hs
  by_cases h2 : k = 2
  · subst h2; exact form_2 N a b c w hE ho hs
  by_cases h3 : k = 3
  · subst h3; exact form_3 N a b c w hE ho hs
  by_cases h4 : k = 4
  · subst h4
    have e : saysR ⟨4, a, b, c⟩ = ((decide (1 ≤ c) && decide (c ≤ 3)) || (decide (c = 0) && decide (b = 0))) := rfl
    rw [e] at hR
    simp only [Bool.or_eq_true, Bool.and_eq_true, decide_eq_true_eq] at hR
    rcases (by omega : c = 0 ∨ c = 1 ∨ c = 2 ∨ c = 3) with rfl | rfl | rfl | rfl
    · exact form_4_0 N a b w hE ho hs
    · exact form_4_1 N a b w hE ho hs
    · exact form_4_2 N a b w hE ho hs
    · exact form_4_3 N a b w hE ho hs
  by_cases h5 : k = 5
  · subst h5; exact form_5 N a b c w hE ho hs
  by_cases h6 : k = 6
  · subst h6; exact form_6 N a b c w hE ho hs
  by_cases h7 : k = 7
  · subst h7; exact form_7 N a b c w hE ho hs
  unfold saysR at hR
  simp only at hR
  rw [if_neg h1, if_neg h2, if_neg h3, if_neg h4, if_neg h5, if_neg h6, if_neg h7] at hR
  cases hR
end Go.Proofs.YtdmhlhoimaeacaaDoor
