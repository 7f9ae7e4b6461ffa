/-
  The reference's says (f46), walked. (Printed by wip/gen/refsays.py.)
-/
import Derived.Test.YtdmhlhoimaeacaaDoorRefSays
namespace Go.Proofs.YtdmhlhoimaeacaaDoor
open Go.RowKit Go.Maps
set_option linter.unusedVariables false

set_option maxRecDepth 100000 in
set_option maxHeartbeats 8000000 in
theorem says_1 (a b c : Int) (w : World) : Calls Tryd.prog 46 #[.agg #[.int .i64 1, .int .i64 a, .int .i64 b, .int .i64 c]] w fun e w' => e = .returned (.bool (saysR ⟨1, a, b, c⟩)) ∧ Below w.heap.size w w' := by
  have HB : Hid (∀ o, Below w.heap.size w (w.alloc o)) := Lib.hid (fun o => (Below.refl _ _).alloc (Nat.le_refl _) o)
  have HI := Lib.hid (fun n lo hi W => inw_walk n lo hi W)
  have HR : Hid (saysR ⟨1, a, b, c⟩ = (inW b 0 65536 && decide (c = 0))) := Lib.hid rfl
  generalize saysR ⟨1, a, b, c⟩ = r at *
  go_enter Tryd.func46, Tryd.ntmps46
  go_wp2_with fail
  refine (HI.out _ _ _ _).mono ?_
  rintro e w' ⟨rfl, rfl⟩
  cases hq0 : inW b 0 65536 with
  | false =>
    have HQ0 := Lib.hid hq0
    clear hq0
    have HF : Hid (r = false) := Lib.hid (by rw [HR.out, HQ0.out] <;> simp)
    go_wp2_with fail
    go_ret
    exact ⟨by rw [HF.out]; rfl, HB.out _⟩
  | true =>
    have HQ0 := Lib.hid hq0
    clear hq0
    by_cases hc1 : c = 0
    · have hb1 : (c == 0) = true := by simpa using hc1
      have HC1 := Lib.hid (decide_eq_true hc1)
      have HF : Hid (r = true) := Lib.hid (by rw [HR.out, HQ0.out, HC1.out] <;> simp)
      go_wp2_with fail
      go_ret
      exact ⟨by rw [HF.out]; rfl, HB.out _⟩
    · have hb1 : (c == 0) = false := by simpa using hc1
      have HC1 := Lib.hid (decide_eq_false hc1)
      have HF : Hid (r = false) := Lib.hid (by rw [HR.out, HQ0.out, HC1.out] <;> simp)
      go_wp2_with fail
      go_ret
      exact ⟨by rw [HF.out]; rfl, HB.out _⟩

set_option maxRecDepth 100000 in
set_option maxHeartbeats 8000000 in
theorem says_2 (a b c : Int) (w : World) : Calls Tryd.prog 46 #[.agg #[.int .i64 2, .int .i64 a, .int .i64 b, .int .i64 c]] w fun e w' => e = .returned (.bool (saysR ⟨2, a, b, c⟩)) ∧ Below w.heap.size w w' := by
  have HB : Hid (∀ o, Below w.heap.size w (w.alloc o)) := Lib.hid (fun o => (Below.refl _ _).alloc (Nat.le_refl _) o)
  have HI := Lib.hid (fun n lo hi W => inw_walk n lo hi W)
  have HR : Hid (saysR ⟨2, a, b, c⟩ = (decide (b = 0) && decide (c = 0))) := Lib.hid rfl
  generalize saysR ⟨2, a, b, c⟩ = r at *
  go_enter Tryd.func46, Tryd.ntmps46
  by_cases hc0 : b = 0
  · have hb0 : (b == 0) = true := by simpa using hc0
    have HC0 := Lib.hid (decide_eq_true hc0)
    by_cases hc1 : c = 0
    · have hb1 : (c == 0) = true := by simpa using hc1
      have HC1 := Lib.hid (decide_eq_true hc1)
      have HF : Hid (r = true) := Lib.hid (by rw [HR.out, HC0.out, HC1.out] <;> simp)
      go_wp2_with fail
      go_ret
      exact ⟨by rw [HF.out]; rfl, HB.out _⟩
    · have hb1 : (c == 0) = false := by simpa using hc1
      have HC1 := Lib.hid (decide_eq_false hc1)
      have HF : Hid (r = false) := Lib.hid (by rw [HR.out, HC0.out, HC1.out] <;> simp)
      go_wp2_with fail
      go_ret
      exact ⟨by rw [HF.out]; rfl, HB.out _⟩
  · have hb0 : (b == 0) = false := by simpa using hc0
    have HC0 := Lib.hid (decide_eq_false hc0)
    have HF : Hid (r = false) := Lib.hid (by rw [HR.out, HC0.out] <;> simp)
    go_wp2_with fail
    go_ret
    exact ⟨by rw [HF.out]; rfl, HB.out _⟩

set_option maxRecDepth 100000 in
set_option maxHeartbeats 8000000 in
theorem says_3 (a b c : Int) (w : World) : Calls Tryd.prog 46 #[.agg #[.int .i64 3, .int .i64 a, .int .i64 b, .int .i64 c]] w fun e w' => e = .returned (.bool (saysR ⟨3, a, b, c⟩)) ∧ Below w.heap.size w w' := by
  have HB : Hid (∀ o, Below w.heap.size w (w.alloc o)) := Lib.hid (fun o => (Below.refl _ _).alloc (Nat.le_refl _) o)
  have HI := Lib.hid (fun n lo hi W => inw_walk n lo hi W)
  have HR : Hid (saysR ⟨3, a, b, c⟩ = inW c 0 65536) := Lib.hid rfl
  generalize saysR ⟨3, a, b, c⟩ = r at *
  go_enter Tryd.func46, Tryd.ntmps46
  go_wp2_with fail
  refine (HI.out _ _ _ _).mono ?_
  rintro e w' ⟨rfl, rfl⟩
  cases hq0 : inW c 0 65536 with
  | false =>
    have HQ0 := Lib.hid hq0
    clear hq0
    have HF : Hid (r = false) := Lib.hid (by rw [HR.out, HQ0.out] <;> simp)
    go_wp2_with fail
    go_ret
    exact ⟨by rw [HF.out]; rfl, HB.out _⟩
  | true =>
    have HQ0 := Lib.hid hq0
    clear hq0
    have HF : Hid (r = true) := Lib.hid (by rw [HR.out, HQ0.out] <;> simp)
    go_wp2_with fail
    go_ret
    exact ⟨by rw [HF.out]; rfl, HB.out _⟩

set_option maxRecDepth 100000 in
set_option maxHeartbeats 8000000 in
theorem says_5 (a b c : Int) (w : World) : Calls Tryd.prog 46 #[.agg #[.int .i64 5, .int .i64 a, .int .i64 b, .int .i64 c]] w fun e w' => e = .returned (.bool (saysR ⟨5, a, b, c⟩)) ∧ Below w.heap.size w w' := by
  have HB : Hid (∀ o, Below w.heap.size w (w.alloc o)) := Lib.hid (fun o => (Below.refl _ _).alloc (Nat.le_refl _) o)
  have HI := Lib.hid (fun n lo hi W => inw_walk n lo hi W)
  have HR : Hid (saysR ⟨5, a, b, c⟩ = decide (c = 0)) := Lib.hid rfl
  generalize saysR ⟨5, a, b, c⟩ = r at *
  go_enter Tryd.func46, Tryd.ntmps46
  by_cases hc0 : c = 0
  · have hb0 : (c == 0) = true := by simpa using hc0
    have HC0 := Lib.hid (decide_eq_true hc0)
    have HF : Hid (r = true) := Lib.hid (by rw [HR.out, HC0.out] <;> simp)
    go_wp2_with fail
    go_ret
    exact ⟨by rw [HF.out]; rfl, HB.out _⟩
  · have hb0 : (c == 0) = false := by simpa using hc0
    have HC0 := Lib.hid (decide_eq_false hc0)
    have HF : Hid (r = false) := Lib.hid (by rw [HR.out, HC0.out] <;> simp)
    go_wp2_with fail
    go_ret
    exact ⟨by rw [HF.out]; rfl, HB.out _⟩

set_option maxRecDepth 100000 in
set_option maxHeartbeats 8000000 in
theorem says_6 (a b c : Int) (w : World) : Calls Tryd.prog 46 #[.agg #[.int .i64 6, .int .i64 a, .int .i64 b, .int .i64 c]] w fun e w' => e = .returned (.bool (saysR ⟨6, a, b, c⟩)) ∧ Below w.heap.size w w' := by
  have HB : Hid (∀ o, Below w.heap.size w (w.alloc o)) := Lib.hid (fun o => (Below.refl _ _).alloc (Nat.le_refl _) o)
  have HI := Lib.hid (fun n lo hi W => inw_walk n lo hi W)
  have HR : Hid (saysR ⟨6, a, b, c⟩ = ((inW a 0 2147483647 && inW b 0 2147483647) && decide (c = 0))) := Lib.hid rfl
  generalize saysR ⟨6, a, b, c⟩ = r at *
  go_enter Tryd.func46, Tryd.ntmps46
  go_wp2_with fail
  refine (HI.out _ _ _ _).mono ?_
  rintro e w' ⟨rfl, rfl⟩
  cases hq0 : inW a 0 2147483647 with
  | false =>
    have HQ0 := Lib.hid hq0
    clear hq0
    have HF : Hid (r = false) := Lib.hid (by rw [HR.out, HQ0.out] <;> simp)
    go_wp2_with fail
    go_ret
    exact ⟨by rw [HF.out]; rfl, HB.out _⟩
  | true =>
    have HQ0 := Lib.hid hq0
    clear hq0
    go_wp2_with fail
    refine (HI.out _ _ _ _).mono ?_
    rintro e w' ⟨rfl, rfl⟩
    cases hq1 : inW b 0 2147483647 with
    | false =>
      have HQ1 := Lib.hid hq1
      clear hq1
      have HF : Hid (r = false) := Lib.hid (by rw [HR.out, HQ0.out, HQ1.out] <;> simp)
      go_wp2_with fail
      go_ret
      exact ⟨by rw [HF.out]; rfl, HB.out _⟩
    | true =>
      have HQ1 := Lib.hid hq1
      clear hq1
      by_cases hc2 : c = 0
      · have hb2 : (c == 0) = true := by simpa using hc2
        have HC2 := Lib.hid (decide_eq_true hc2)
        have HF : Hid (r = true) := Lib.hid (by rw [HR.out, HQ0.out, HQ1.out, HC2.out] <;> simp)
        go_wp2_with fail
        go_ret
        exact ⟨by rw [HF.out]; rfl, HB.out _⟩
      · have hb2 : (c == 0) = false := by simpa using hc2
        have HC2 := Lib.hid (decide_eq_false hc2)
        have HF : Hid (r = false) := Lib.hid (by rw [HR.out, HQ0.out, HQ1.out, HC2.out] <;> simp)
        go_wp2_with fail
        go_ret
        exact ⟨by rw [HF.out]; rfl, HB.out _⟩

set_option maxRecDepth 100000 in
set_option maxHeartbeats 8000000 in
theorem says_7 (a b c : Int) (w : World) : Calls Tryd.prog 46 #[.agg #[.int .i64 7, .int .i64 a, .int .i64 b, .int .i64 c]] w fun e w' => e = .returned (.bool (saysR ⟨7, a, b, c⟩)) ∧ Below w.heap.size w w' := by
  have HB : Hid (∀ o, Below w.heap.size w (w.alloc o)) := Lib.hid (fun o => (Below.refl _ _).alloc (Nat.le_refl _) o)
  have HI := Lib.hid (fun n lo hi W => inw_walk n lo hi W)
  have HR : Hid (saysR ⟨7, a, b, c⟩ = ((inW a 0 2147483647 && decide (b = 0)) && decide (c = 0))) := Lib.hid rfl
  generalize saysR ⟨7, a, b, c⟩ = r at *
  go_enter Tryd.func46, Tryd.ntmps46
  go_wp2_with fail
  refine (HI.out _ _ _ _).mono ?_
  rintro e w' ⟨rfl, rfl⟩
  cases hq0 : inW a 0 2147483647 with
  | false =>
    have HQ0 := Lib.hid hq0
    clear hq0
    have HF : Hid (r = false) := Lib.hid (by rw [HR.out, HQ0.out] <;> simp)
    go_wp2_with fail
    go_ret
    exact ⟨by rw [HF.out]; rfl, HB.out _⟩
  | true =>
    have HQ0 := Lib.hid hq0
    clear hq0
    by_cases hc1 : b = 0
    · have hb1 : (b == 0) = true := by simpa using hc1
      have HC1 := Lib.hid (decide_eq_true hc1)
      by_cases hc2 : c = 0
      · have hb2 : (c == 0) = true := by simpa using hc2
        have HC2 := Lib.hid (decide_eq_true hc2)
        have HF : Hid (r = true) := Lib.hid (by rw [HR.out, HQ0.out, HC1.out, HC2.out] <;> simp)
        go_wp2_with fail
        go_ret
        exact ⟨by rw [HF.out]; rfl, HB.out _⟩
      · have hb2 : (c == 0) = false := by simpa using hc2
        have HC2 := Lib.hid (decide_eq_false hc2)
        have HF : Hid (r = false) := Lib.hid (by rw [HR.out, HQ0.out, HC1.out, HC2.out] <;> simp)
        go_wp2_with fail
        go_ret
        exact ⟨by rw [HF.out]; rfl, HB.out _⟩
    · have hb1 : (b == 0) = false := by simpa using hc1
      have HC1 := Lib.hid (decide_eq_false hc1)
      have HF : Hid (r = false) := Lib.hid (by rw [HR.out, HQ0.out, HC1.out] <;> simp)
      go_wp2_with fail
      go_ret
      exact ⟨by rw [HF.out]; rfl, HB.out _⟩

set_option maxRecDepth 100000 in
set_option maxHeartbeats 8000000 in
theorem says_4 (a b c : Int) (w : World) : Calls Tryd.prog 46 #[.agg #[.int .i64 4, .int .i64 a, .int .i64 b, .int .i64 c]] w fun e w' => e = .returned (.bool (saysR ⟨4, a, b, c⟩)) ∧ Below w.heap.size w w' := by
  have HB : Hid (∀ o, Below w.heap.size w (w.alloc o)) := Lib.hid (fun o => (Below.refl _ _).alloc (Nat.le_refl _) o)
  have HI := Lib.hid (fun n lo hi W => inw_walk n lo hi W)
  have HR : Hid (saysR ⟨4, a, b, c⟩ = (inW c 1 3 || (decide (c = 0) && decide (b = 0)))) := Lib.hid rfl
  generalize saysR ⟨4, a, b, c⟩ = r at *
  go_enter Tryd.func46, Tryd.ntmps46
  go_wp2_with fail
  refine (HI.out _ _ _ _).mono ?_
  rintro e w' ⟨rfl, rfl⟩
  cases hq0 : inW c 1 3 with
  | true =>
    have HQ0 := Lib.hid hq0
    clear hq0
    have HF : Hid (r = true) := Lib.hid (by rw [HR.out, HQ0.out] <;> simp)
    go_wp2_with fail
    go_ret
    exact ⟨by rw [HF.out]; rfl, HB.out _⟩
  | false =>
    have HQ0 := Lib.hid hq0
    clear hq0
    by_cases hc0 : c = 0
    · have hb0 : (c == 0) = true := by simpa using hc0
      have HC0 := Lib.hid (decide_eq_true hc0)
      by_cases hc1 : b = 0
      · have hb1 : (b == 0) = true := by simpa using hc1
        have HC1 := Lib.hid (decide_eq_true hc1)
        have HF : Hid (r = true) := Lib.hid (by rw [HR.out, HQ0.out, HC0.out, HC1.out] <;> simp)
        go_wp2_with fail
        go_ret
        exact ⟨by rw [HF.out]; rfl, HB.out _⟩
      · have hb1 : (b == 0) = false := by simpa using hc1
        have HC1 := Lib.hid (decide_eq_false hc1)
        have HF : Hid (r = false) := Lib.hid (by rw [HR.out, HQ0.out, HC0.out, HC1.out] <;> simp)
        go_wp2_with fail
        go_ret
        exact ⟨by rw [HF.out]; rfl, HB.out _⟩
    · have hb0 : (c == 0) = false := by simpa using hc0
      have HC0 := Lib.hid (decide_eq_false hc0)
      have HF : Hid (r = false) := Lib.hid (by rw [HR.out, HQ0.out, HC0.out] <;> simp)
      go_wp2_with fail
      go_ret
      exact ⟨by rw [HF.out]; rfl, HB.out _⟩

set_option maxRecDepth 100000 in
set_option maxHeartbeats 8000000 in
theorem says_x (k a b c : Int) (w : World) (h1 : ¬ k = 1) (h2 : ¬ k = 2) (h3 : ¬ k = 3) (h4 : ¬ k = 4) (h5 : ¬ k = 5) (h6 : ¬ k = 6) (h7 : ¬ k = 7) : Calls Tryd.prog 46 #[.agg #[.int .i64 k, .int .i64 a, .int .i64 b, .int .i64 c]] w fun e w' => e = .returned (.bool (saysR ⟨k, a, b, c⟩)) ∧ Below w.heap.size w w' := by
  have HB : Hid (∀ o, Below w.heap.size w (w.alloc o)) := Lib.hid (fun o => (Below.refl _ _).alloc (Nat.le_refl _) o)
  have HF : Hid (saysR ⟨k, a, b, c⟩ = false) := Lib.hid (by unfold saysR; simp only; rw [if_neg h1, if_neg h2, if_neg h3, if_neg h4, if_neg h5, if_neg h6, if_neg h7])
  generalize saysR ⟨k, a, b, c⟩ = r at *
  have b1 : (k == 1) = false := by simpa using h1
  have b2 : (k == 2) = false := by simpa using h2
  have b3 : (k == 3) = false := by simpa using h3
  have b4 : (k == 4) = false := by simpa using h4
  have b5 : (k == 5) = false := by simpa using h5
  have b6 : (k == 6) = false := by simpa using h6
  have b7 : (k == 7) = false := by simpa using h7
  go_enter Tryd.func46, Tryd.ntmps46
  go_wp2_with fail
  go_ret
  exact ⟨by rw [HF.out]; rfl, HB.out _⟩

/-- says, whole. -/
theorem says_walk (o : Opn) (ho : In64O o) (w : World) : Calls Tryd.prog 46 #[.agg #[.int .i64 o.k, .int .i64 o.a, .int .i64 o.b, .int .i64 o.c]] w fun e w' => e = .returned (.bool (saysF o)) ∧ Below w.heap.size w w' := by
  rw [says_same o ho]
  obtain ⟨k, a, b, c⟩ := o
  by_cases h1 : k = 1
  · subst h1; exact says_1 a b c w
  by_cases h2 : k = 2
  · subst h2; exact says_2 a b c w
  by_cases h3 : k = 3
  · subst h3; exact says_3 a b c w
  by_cases h4 : k = 4
  · subst h4; exact says_4 a b c w
  by_cases h5 : k = 5
  · subst h5; exact says_5 a b c w
  by_cases h6 : k = 6
  · subst h6; exact says_6 a b c w
  by_cases h7 : k = 7
  · subst h7; exact says_7 a b c w
  exact says_x k a b c w h1 h2 h3 h4 h5 h6 h7
end Go.Proofs.YtdmhlhoimaeacaaDoor
