/-
  The contract of the barrier's Wait: the lean way; a way that is none; no sources; the alarm raised. And what a nil or an empty barrier answers.
-/
import Derived.Test.YtimkkeomdkbcjaaWait
namespace Go.Proofs.Ytimkkeomdkbcjaa
open Go.RowKit
set_option linter.unusedVariables false
variable {Y : Lay} {al : Bool} {a : Nat → Nat} {n : Nat} {w : World}

set_option maxRecDepth 100000 in
theorem wait_lean (h : Mem Y false a n w) (q : Bool) (hk : 1 ≤ Y.k) (Q tries : Int) (ha : ∀ i, a i ≤ 1000000) (hn : n ≤ 1000000) :
    Calls Try.prog 11 #[.pointer (some ⟨Y.bb, 0, none⟩), sv Y q, .int .i64 Q, .int .i64 tries, .int .i64 2] w (DoneL Y (leanR Y Q (clamp tries) 0 0 0 a) false n (inc q) w) := by
  have hkk := h.kk
  have hbar := bar_cell h (by omega)
  have hk0 : ((Y.k : Int) == 0) = false := by rw [beq_eq_false_iff_ne]; omega
  have C := Lib.hid (fun (t : Nat) (ht : t ≤ 1024) => lean_any h q hk Q t ht ha hn)
  clear h
  generalize sv Y q = s at *
  generalize inc q = d at *
  by_cases c1 : tries < 1
  · have e : clamp tries = 1 := by unfold clamp; rw [if_pos c1]
    rw [e]
    have C1 := Lib.hid (C.out 1 (by omega))
    clear C e
    go_enter Try.func11, Try.ntmps11
    go_wp2_with (go_at_call 22; refine C1.out.mono ?_; rintro e w' ⟨rfl, h1, hb1⟩; have H1 := Lib.hid h1; clear h1)
    go_ret2
    exact ⟨rfl, H1.out, hb1⟩
  · by_cases c2 : 1024 < tries
    · have e : clamp tries = 1024 := by unfold clamp; rw [if_neg c1, if_pos c2]
      rw [e]
      have C1 := Lib.hid (C.out 1024 (by omega))
      clear C e
      go_enter Try.func11, Try.ntmps11
      go_wp2_with (go_at_call 22; refine C1.out.mono ?_; rintro e w' ⟨rfl, h1, hb1⟩; have H1 := Lib.hid h1; clear h1)
      go_ret2
      exact ⟨rfl, H1.out, hb1⟩
    · obtain ⟨T, rfl⟩ := Int.eq_ofNat_of_zero_le (show 0 ≤ tries by omega)
      have e : clamp (T : Int) = T := by unfold clamp; rw [if_neg c1, if_neg c2]; simp
      rw [e]
      have C1 := Lib.hid (C.out T (by omega))
      have c3 : 1 ≤ (T : Int) := by omega
      have c4 : (T : Int) ≤ 1024 := by omega
      clear C e c1 c2
      go_enter Try.func11, Try.ntmps11
      go_wp2_with (go_at_call 22; refine C1.out.mono ?_; rintro e w' ⟨rfl, h1, hb1⟩; have H1 := Lib.hid h1; clear h1)
      go_ret2
      exact ⟨rfl, H1.out, hb1⟩

/-- A way that is none of the three, whatever the barrier. -/
theorem wait_kind (b s : Value) (Q tries way : Int) (hw : way < 1 ∨ 3 < way) (w : World) :
    Calls Try.prog 11 #[b, s, .int .i64 Q, .int .i64 tries, .int .i64 way] w fun e w' => e = .returned (.tuple #[.int .i64 0, .int .i64 2]) ∧ w = w' := by
  rcases hw with hw | hw
  · go_enter Try.func11, Try.ntmps11
    go_wp2
    go_ret2
    exact ⟨rfl, rfl⟩
  · have h1 : ¬ way < 1 := by omega
    go_enter Try.func11, Try.ntmps11
    go_wp2
    go_ret2
    exact ⟨rfl, rfl⟩

/-- A nil barrier. -/
theorem wait_nil (s : Value) (Q tries way : Int) (h1 : 1 ≤ way) (h3 : way ≤ 3) (w : World) :
    Calls Try.prog 11 #[.pointer none, s, .int .i64 Q, .int .i64 tries, .int .i64 way] w fun e w' => e = .returned (.tuple #[.int .i64 0, .int .i64 6]) ∧ w = w' := by
  go_enter Try.func11, Try.ntmps11
  go_wp2
  go_ret2
  exact ⟨rfl, rfl⟩

/-- A barrier without sources. -/
theorem wait_empty (b : Nat) (s : Value) (Q tries way : Int) (h1 : 1 ≤ way) (h3 : way ≤ 3) (w : World) (hc : w.cell? ⟨b, 0, none⟩ = some (.slice none 0 0)) :
    Calls Try.prog 11 #[.pointer (some ⟨b, 0, none⟩), s, .int .i64 Q, .int .i64 tries, .int .i64 way] w fun e w' => e = .returned (.tuple #[.int .i64 0, .int .i64 6]) ∧ w = w' := by
  go_enter Try.func11, Try.ntmps11
  go_wp2
  go_ret2
  exact ⟨rfl, rfl⟩

theorem limit_nil (s : Value) (w : World) : Calls Try.prog 12 #[.pointer none, s] w fun e w' => e = .returned (.int .i64 (-1)) ∧ w = w' := by
  go_enter Try.func12, Try.ntmps12
  go_wp2
  go_ret
  exact ⟨rfl, rfl⟩
theorem limit_empty (b : Nat) (s : Value) (w : World) (hc : w.cell? ⟨b, 0, none⟩ = some (.slice none 0 0)) : Calls Try.prog 12 #[.pointer (some ⟨b, 0, none⟩), s] w fun e w' => e = .returned (.int .i64 (-1)) ∧ w = w' := by
  go_enter Try.func12, Try.ntmps12
  go_wp2
  go_ret
  exact ⟨rfl, rfl⟩
theorem alert_nil (s : Value) (w : World) : Calls Try.prog 14 #[.pointer none, s] w fun e w' => e = .returned (.bool false) ∧ w = w' := by
  go_enter Try.func14, Try.ntmps14
  go_wp2
  go_ret
  exact ⟨rfl, rfl⟩
theorem clear_nil (s : Value) (w : World) : Calls Try.prog 15 #[.pointer none, s] w fun e w' => e = .returned (.bool false) ∧ w = w' := by
  go_enter Try.func15, Try.ntmps15
  go_wp2
  go_ret
  exact ⟨rfl, rfl⟩
theorem alerted_nil (s : Value) (w : World) : Calls Try.prog 13 #[.pointer none, s] w fun e w' => e = .returned (.bool false) ∧ w = w' := by
  go_enter Try.func13, Try.ntmps13
  go_wp2
  go_ret
  exact ⟨rfl, rfl⟩
end Go.Proofs.Ytimkkeomdkbcjaa
