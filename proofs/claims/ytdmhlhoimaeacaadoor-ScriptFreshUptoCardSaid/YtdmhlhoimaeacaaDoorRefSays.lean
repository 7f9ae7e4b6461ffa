/-
  The reference's within (f44), says (f46), num (f40).
-/
import Derived.Test.YtdmhlhoimaeacaaDoorS7
namespace Go.Proofs.YtdmhlhoimaeacaaDoor
open Go.RowKit Go.Maps
set_option linter.unusedVariables false

def inW (n lo hi : Int) : Bool := decide (lo ≤ n) && decide (n ≤ hi)
set_option maxRecDepth 100000 in
theorem inw_walk (n lo hi : Int) (w : World) : Calls Tryd.prog 44 #[.int .i64 n, .int .i64 lo, .int .i64 hi] w fun e w' => e = .returned (.bool (inW n lo hi)) ∧ w' = w := by
  have HD : Hid (inW n lo hi = (decide (lo ≤ n) && decide (n ≤ hi))) := Lib.hid rfl
  generalize inW n lo hi = r at *
  go_enter Tryd.func44, Tryd.ntmps44
  by_cases h1 : lo ≤ n
  · have g1 : n ≥ lo := h1
    by_cases h2 : n ≤ hi
    · have HF : Hid (r = true) := Lib.hid (by rw [HD.out, decide_eq_true h1, decide_eq_true h2]; rfl)
      go_wp2_with fail
      go_ret
      exact ⟨by rw [HF.out]; rfl, rfl⟩
    · have HF : Hid (r = false) := Lib.hid (by rw [HD.out, decide_eq_true h1, decide_eq_false h2]; rfl)
      go_wp2_with fail
      go_ret
      exact ⟨by rw [HF.out]; rfl, rfl⟩
  · have g1 : ¬ n ≥ lo := h1
    have HF : Hid (r = false) := Lib.hid (by rw [HD.out, decide_eq_false h1]; rfl)
    go_wp2_with fail
    go_ret
    exact ⟨by rw [HF.out]; rfl, rfl⟩
set_option maxRecDepth 100000 in
theorem num_walk (N : Nat) (n : Int) (w : World) (hE : Env N w) (hn : In64 n) : Calls Tryd.prog 40 #[.int .i64 n] w fun e w' => e = .returned (.string ⟨(Lib.itoa n).toArray⟩) ∧ Below w.heap.size w w' := by
  have HF := Lib.hid (fmt_walk N n w hE hn)
  clear hE hn
  go_enter Tryd.func40, Tryd.ntmps40
  go_wp2_with fail
  refine HF.out.mono ?_
  rintro e w' ⟨rfl, hb⟩
  have HB := Lib.hid hb
  clear hb
  go_wp2_with fail
  go_ret
  exact ⟨rfl, HB.out⟩
/-- says, in the reference's words. -/
def saysR (o : Opn) : Bool :=
  if o.k = 1 then inW o.b 0 65536 && decide (o.c = 0)
  else if o.k = 2 then decide (o.b = 0) && decide (o.c = 0)
  else if o.k = 3 then inW o.c 0 65536
  else if o.k = 4 then inW o.c 1 3 || (decide (o.c = 0) && decide (o.b = 0))
  else if o.k = 5 then decide (o.c = 0)
  else if o.k = 6 then inW o.a 0 2147483647 && inW o.b 0 2147483647 && decide (o.c = 0)
  else if o.k = 7 then inW o.a 0 2147483647 && decide (o.b = 0) && decide (o.c = 0)
  else false
theorem says_same (o : Opn) (ho : In64O o) : saysF o = saysR o := by
  obtain ⟨k, a, b, c⟩ := o
  have ha := ho.2.1
  have hb := ho.2.2.1
  have hc := ho.2.2.2
  unfold In64 at ha hb hc
  simp only at ha hb hc
  by_cases h4 : k = 4
  · subst h4
    have hR : saysR ⟨4, a, b, c⟩ = ((decide (1 ≤ c) && decide (c ≤ 3)) || (decide (c = 0) && decide (b = 0))) := rfl
    rw [hR]
    unfold saysF tellF
    rw [if_pos rfl]
    simp only
    split
    · have hr : ((decide (1 ≤ c) && decide (c ≤ 3)) || (decide (c = 0) && decide (b = 0))) = false := by
        rw [← Bool.not_eq_true]
        simp only [Bool.or_eq_true, Bool.and_eq_true, decide_eq_true_eq]
        omega
      rw [hr]
      rfl
    · have hr : ((decide (1 ≤ c) && decide (c ≤ 3)) || (decide (c = 0) && decide (b = 0))) = true := by
        simp only [Bool.or_eq_true, Bool.and_eq_true, decide_eq_true_eq]
        omega
      rw [hr]
      split <;> rfl
  · by_cases h : ∃ j, j < 6 ∧ (formOf j).kind = k
    · obtain ⟨j, hj, he⟩ := h
      unfold saysF
      rw [tell_form (o := ⟨k, a, b, c⟩) hj he]
      rcases (by omega : j = 0 ∨ j = 1 ∨ j = 2 ∨ j = 3 ∨ j = 4 ∨ j = 5) with rfl | rfl | rfl | rfl | rfl | rfl <;>
        (simp [formOf, formsF] at he; subst he; unfold saysR inW; rw [Bool.eq_iff_iff]; simp [okAt, formOf, formsF, opN, lowOf, highOf, lo64, hi64]; try omega)
    · unfold saysF
      rw [tell_strange (o := ⟨k, a, b, c⟩) h4 (fun j hj e => h ⟨j, hj, e⟩)]
      have q : ∀ j, j < 6 → (formOf j).kind ≠ k := fun j hj e => h ⟨j, hj, e⟩
      have q0 := q 0 (by omega)
      have q1 := q 1 (by omega)
      have q2 := q 2 (by omega)
      have q3 := q 3 (by omega)
      have q4 := q 4 (by omega)
      have q5 := q 5 (by omega)
      simp [formOf, formsF] at q0 q1 q2 q3 q4 q5
      unfold saysR
      simp only
      rw [if_neg (by omega), if_neg (by omega), if_neg (by omega), if_neg h4, if_neg (by omega), if_neg (by omega), if_neg (by omega)]
      rfl
end Go.Proofs.YtdmhlhoimaeacaaDoor
