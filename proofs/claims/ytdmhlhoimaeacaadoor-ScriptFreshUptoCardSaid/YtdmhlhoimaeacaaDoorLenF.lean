/-
  How long a printed text may be. No program in sight.
-/
import Derived.Test.YtdmhlhoimaeacaaDoorExF
namespace Go.Proofs.YtdmhlhoimaeacaaDoor
open PL
set_option linter.unusedVariables false

theorem runsT_len {α : Type} [DecidableEq α] (f : α → Word) (g : Nat → Word) (A : Nat) (hg : ∀ n, n ≤ 65536 → (g n).length ≤ 24) : ∀ (fu : Nat) (l : List α), (∀ x ∈ l, (f x).length ≤ A) → (runsT f g fu l).length ≤ (A + 24) * l.length
  | 0, l, _ => Nat.zero_le _
  | _ + 1, [], _ => Nat.zero_le _
  | fu + 1, x :: r, h => by
    have hp := alikeF_pos (x :: r)
    have hq := alikeF_le (List.cons_ne_nil x r)
    have ih := runsT_len f g A hg fu ((x :: r).drop (alikeF (x :: r))) (fun y hy => h y (List.mem_of_mem_drop hy))
    have h1 := h x (by simp)
    have h2 := hg _ hq.2
    rw [runsT, List.length_append, List.length_append]
    rw [List.length_drop] at ih
    have h3 : (A + 24) * ((x :: r).length - alikeF (x :: r)) ≤ (A + 24) * ((x :: r).length - 1) := Nat.mul_le_mul_left _ (by omega)
    have h4 : (A + 24) * (x :: r).length = (A + 24) * ((x :: r).length - 1) + (A + 24) := by
      rw [show (x :: r).length = ((x :: r).length - 1) + 1 by simp, Nat.mul_add]
      simp
    omega
theorem schT_len (l : List Int) (h : ∀ n ∈ l, In64 n) : (schT l).length ≤ 46 * l.length + 9 := by
  unfold schT
  split
  · simp
  · have := runsT_len (fun n => 32 :: Lib.itoa n) starT 22 (fun n hn => by have := starT_len n hn; omega) l.length l (fun n hn => by have := itoa_len (h n hn).1 (h n hn).2; simp; omega)
    have hw : wSchedule.length = 8 := rfl
    unfold schRuns
    simp only [List.length_append, List.length_cons, List.length_nil]
    omega
theorem timesT_len (n : Nat) (h : n ≤ 65536) : (timesT n).length ≤ 24 := by
  unfold timesT
  have := itoa_len (v := (n : Int)) (by omega) (by omega)
  split
  · simp; omega
  · simp
theorem opsRuns_len (l : List Opn) (h : ∀ o ∈ l, In64O o) : (opsRuns l).length ≤ 126 * l.length := by
  have := runsT_len (fun o => 32 :: 32 :: tellD o) timesT 102 (fun n hn => timesT_len n hn) l.length l (fun o ho => by have := tellD_len o (h o ho); simp; omega)
  unfold opsRuns
  exact this
/-! A printed text's length. -/
theorem thrsT_len (L : List Thr) (h : ∀ t ∈ L, t.name.length ≤ 40 ∧ t.ops.length ≤ 65536 ∧ ∀ o ∈ t.ops, In64O o) : (thrsT L).length ≤ 9000000 * L.length := by
  induction L with
  | nil => simp [thrsT]
  | cons t L ih =>
    have h1 := h t (by simp)
    have h2 := ih (fun u hu => h u (by simp [hu]))
    have h3 := opsRuns_len t.ops h1.2.2
    have h4 : (thrT t).length ≤ 50 + 126 * t.ops.length := by
      unfold thrT
      simp [wThread]
      omega
    have h5 : thrsT (t :: L) = thrT t ++ thrsT L := rfl
    rw [h5, List.length_append, List.length_cons, Nat.mul_add]
    omega
theorem printF_len {S : Scr} (h : GoodScr S) : (printF S).length ≤ 700000000 := by
  have hn := good_nums h
  have h1 := topsT_len S.tops hn.tops S.tops.length (Nat.le_refl _)
  rw [List.take_length] at h1
  have h2 := schT_len S.sch hn.sch
  have h3 := thrsT_len S.thrs (fun t ht => ⟨by
    have := (h.thrs t ht).name
    unfold nameF at this
    simp only [Bool.and_eq_true, decide_eq_true_eq] at this
    omega, (h.thrs t ht).len, hn.ops t ht⟩)
  have h4 : (mostT S.most).length ≤ 60 := by
    unfold mostT
    have := itoa_len hn.most.1 hn.most.2
    split
    · simp
    · simp [wMost]
      omega
  have g1 := h.topsL
  have g2 := h.schL
  have g3 := h.thrsL
  unfold printF
  simp only [List.length_append]
  omega

end Go.Proofs.YtdmhlhoimaeacaaDoor
