/-
  What the answers of a wait say of its loads and steps: plain laws of waitR and leanR.
-/
import Derived.Test.YtimkkeomdkbcjaaRis
namespace Go.Proofs.Ytimkkeomdkbcjaa
open Go.RowKit
set_option linter.unusedVariables false
variable {Y : Lay}

/-- How often the alert is looked at in the tries from i up to i'. -/
def looks (rare : Bool) (i : Nat) : Nat → Nat
  | 0 => 0
  | d + 1 => (if rare = false ∨ i % 8 = 0 then 1 else 0) + looks rare (i + 1) d

theorem looks_eager (i d : Nat) : looks false i d = d := by
  induction d generalizing i with
  | zero => rfl
  | succ d ih => simp [looks, ih]; omega
theorem looks_rare (i d : Nat) : looks true i d = (i + d + 7) / 8 - (i + 7) / 8 := by
  induction d generalizing i with
  | zero => simp [looks]
  | succ d ih =>
    simp only [looks, ih]
    by_cases h : i % 8 = 0
    · simp only [h, or_true, if_true]; omega
    · simp only [h, or_false, Bool.true_eq_false, if_false]; omega

/-- What a wait in whole turns has done: d turns. -/
theorem waitR_spec (rare : Bool) (q : Int) : ∀ (t i s : Nat) (a : Nat → Nat), ∃ d, d ≤ t ∧ (waitR Y rare q t i s a).2.2.2.2 = i + d ∧
    (∀ x, x < Y.k → (waitR Y rare q t i s a).2.2.1 x = a x + d) ∧ (waitR Y rare q t i s a).2.2.2.1 = s + looks rare i d + d * Y.k ∧
    ((1 ≤ d ∧ (waitR Y rare q t i s a).2.1 = 0 ∧ q ≤ (waitR Y rare q t i s a).1) ∨ (d = t ∧ (waitR Y rare q t i s a).2.1 = 4 ∧ (waitR Y rare q t i s a).1 = 0))
  | 0, i, s, a => ⟨0, by omega, rfl, fun _ _ => rfl, by simp [waitR, looks], .inr ⟨rfl, rfl, rfl⟩⟩
  | t + 1, i, s, a => by
    by_cases h : q ≤ lim (next Y a) (Y.k - 1)
    · refine ⟨1, by omega, ?_, ?_, ?_, .inl ⟨by omega, ?_, ?_⟩⟩
      · rw [waitR, if_pos h]
      · intro x hx
        rw [waitR, if_pos h]
        simp [bump, hx]
      · rw [waitR, if_pos h]
        simp [looks]
      · rw [waitR, if_pos h]
      · rw [waitR, if_pos h]; exact h
    · obtain ⟨d, h1, h2, h3, h4, h5⟩ := waitR_spec rare q t (i + 1) (s + (if rare = false ∨ i % 8 = 0 then 1 else 0) + Y.k) (bump a Y.k)
      refine ⟨d + 1, by omega, ?_, ?_, ?_, ?_⟩
      · rw [waitR, if_neg h, h2]; omega
      · intro x hx
        rw [waitR, if_neg h, h3 x hx]
        simp only [bump, hx, if_true]; omega
      · rw [waitR, if_neg h, h4]
        simp only [looks, Nat.add_mul]; omega
      · rw [waitR, if_neg h]
        rcases h5 with ⟨h6, h7⟩ | ⟨h6, h7⟩
        · exact .inl ⟨by omega, h7⟩
        · exact .inr ⟨by omega, h7⟩

/-- The sum of the loads of the first k sources. -/
def sumN (a : Nat → Nat) : Nat → Nat
  | 0 => 0
  | k + 1 => sumN a k + a k

theorem sumN_const {a : Nat → Nat} {d k : Nat} (h : ∀ x, x < k → a x = d) : sumN a k = k * d := by
  induction k with
  | zero => simp [sumN]
  | succ k ih =>
    rw [sumN, ih (fun x hx => h x (by omega)), h k (by omega), Nat.succ_mul]

theorem sumN_upd {a : Nat → Nat} {j k : Nat} : sumN (upd a j) k = sumN a k + (if j < k then 1 else 0) := by
  induction k with
  | zero => simp [sumN]
  | succ k ih =>
    rw [sumN, sumN, ih]
    unfold upd
    by_cases e : k = j
    · subst e; simp; omega
    · by_cases l : j < k
      · simp [e, l, show j < k + 1 by omega]; omega
      · simp [e, l, show ¬ j < k + 1 by omega]

/-- What a lean wait has done: c loads. -/
theorem leanR_spec (q : Int) : ∀ (t i j : Nat) (m : Int) (a : Nat → Nat), j < Y.k → (j = 0 ∨ q ≤ m) → ∃ c, c ≤ t ∧ (leanR Y q t i j m a).2.2.2 = i + c ∧
    sumN (leanR Y q t i j m a).2.2.1 Y.k = sumN a Y.k + c ∧ (∀ x, (leanR Y q t i j m a).2.2.1 x ≤ a x + c) ∧
    (((leanR Y q t i j m a).2.1 = 0 ∧ q ≤ (leanR Y q t i j m a).1) ∨ (c = t ∧ (leanR Y q t i j m a).2.1 = 4 ∧ (leanR Y q t i j m a).1 = 0))
  | 0, i, j, m, a, _, _ => ⟨0, by omega, rfl, rfl, fun _ => Nat.le_refl _, .inr ⟨rfl, rfl, rfl⟩⟩
  | t + 1, i, j, m, a, hj, hm => by
    have hup : ∀ x, upd a j x ≤ a x + 1 := fun x => upd_le (b := a) (i := 0) (fun _ => Nat.le_refl _) x
    by_cases h : next Y a j < q
    · obtain ⟨c, h1, h2, h3, h4, h5⟩ := leanR_spec q t (i + 1) j m (upd a j) hj hm
      refine ⟨c + 1, by omega, ?_, ?_, ?_, ?_⟩
      · rw [leanR, if_pos h, h2]; omega
      · rw [leanR, if_pos h, h3, sumN_upd, if_pos hj]; omega
      · intro x; rw [leanR, if_pos h]; have := h4 x; have := hup x; omega
      · rw [leanR, if_pos h]
        rcases h5 with h6 | ⟨h6, h7⟩
        · exact .inl h6
        · exact .inr ⟨by omega, h7⟩
    · have hm' : q ≤ (if j = 0 ∨ next Y a j < m then next Y a j else m) := by
        split
        · omega
        · rename_i hn
          rcases hm with h0 | h0
          · exact absurd (.inl h0) hn
          · exact h0
      by_cases hl : j + 1 = Y.k
      · refine ⟨1, by omega, ?_, ?_, ?_, .inl ⟨?_, ?_⟩⟩
        · rw [leanR, if_neg h, if_pos hl]
        · rw [leanR, if_neg h, if_pos hl]; simp only; rw [sumN_upd, if_pos hj]
        · intro x; rw [leanR, if_neg h, if_pos hl]; exact hup x
        · rw [leanR, if_neg h, if_pos hl]
        · rw [leanR, if_neg h, if_pos hl]; exact hm'
      · obtain ⟨c, h1, h2, h3, h4, h5⟩ := leanR_spec q t (i + 1) (j + 1) (if j = 0 ∨ next Y a j < m then next Y a j else m) (upd a j) (by omega) (.inr hm')
        refine ⟨c + 1, by omega, ?_, ?_, ?_, ?_⟩
        · rw [leanR, if_neg h, if_neg hl, h2]; omega
        · rw [leanR, if_neg h, if_neg hl, h3, sumN_upd, if_pos hj]; omega
        · intro x; rw [leanR, if_neg h, if_neg hl]; have := h4 x; have := hup x; omega
        · rw [leanR, if_neg h, if_neg hl]
          rcases h5 with h6 | ⟨h6, h7⟩
          · exact .inl h6
          · exact .inr ⟨by omega, h7⟩
end Go.Proofs.Ytimkkeomdkbcjaa
