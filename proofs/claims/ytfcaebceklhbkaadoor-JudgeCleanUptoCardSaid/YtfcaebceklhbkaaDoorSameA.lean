/-
  The contracts of judge.same (of an answer of Do and one that was handed in) and of slices.Clone.
-/
import Derived.Test.YtfcaebceklhbkaaDoorSingle
namespace Go.Proofs.YtfcaebceklhbkaaDoor
open Go.RowKit
set_option linter.unusedVariables false

/-- An answer that was handed in. -/
def ansL (ok : Bool) (n : Int) (lo : Option Addr) (ln lc : Nat) : Value := .agg #[.bool ok, .int .i64 n, .slice lo ln lc]

set_option maxRecDepth 100000 in
set_option maxHeartbeats 4000000 in
theorem equal_walk (lo : Option Addr) (ln lc : Nat) (w : World) (hl : ln ≤ 9223372036854775807) : Calls Tryd.prog 64 #[.slice none 0 0, .slice lo ln lc] w fun e w' => e = .returned (.bool (decide (ln = 0))) ∧ w' = w := by
  by_cases h : ln = 0
  · subst h
    go_enter Tryd.func64, Tryd.ntmps64
    go_wp2_with fail
    go_loopw [13] (fun iv wr => iv = .int .i64 0 ∧ wr = w) (fun iv _ => 0)
    case atStart => exact ⟨rfl, by first | rfl | trivial⟩
    case round =>
      obtain ⟨rfl, rfl⟩ := hrel
      go_wp2_with fail
      go_ret
      exact ⟨rfl, rfl⟩
  · have h1 : ((ln : Nat) : Int) ≠ 0 := by omega
    have h2 : ((0 : Int) == (ln : Nat)) = false := by rw [beq_eq_false_iff_ne]; omega
    have h3 : decide (ln = 0) = false := by simp [h]
    go_enter Tryd.func64, Tryd.ntmps64
    go_wp2_with fail
    go_ret
    exact ⟨by rw [h3]; rfl, rfl⟩

set_option maxRecDepth 100000 in
set_option maxHeartbeats 4000000 in
theorem sameA_walk (ok ok2 : Bool) (n n2 : Int) (lo : Option Addr) (ln lc : Nat) (w : World) (hl : ln ≤ 9223372036854775807) :
    Calls Tryd.prog 52 #[ansV ok n, ansL ok2 n2 lo ln lc] w fun e w' => e = .returned (.bool (ok == ok2 && n == n2 && decide (ln = 0))) ∧ Below w.heap.size w w' := by
  have HB : Hid (Below w.heap.size w ((w.alloc (.cells #[.bool ok, .int .i64 n, .slice none 0 0] 26)).alloc (.cells #[.bool ok2, .int .i64 n2, .slice lo ln lc] 26))) := below_two _ _ _
  unfold ansV ansL
  go_enter Tryd.func52, Tryd.ntmps52
  go_wp2_with (go_at_call 64; refine (equal_walk _ _ _ _ hl).mono ?_; rintro e w' ⟨rfl, rfl⟩)
  all_goals go_ret
  all_goals (refine ⟨?_, below_two _ _ _⟩)
  all_goals (first | (show Ending.returned (.bool (decide (ln = 0))) = _; simp_all; done) | (show Ending.returned (.bool false) = _; simp_all; done))

theorem owned_nums {w : World} {N : Nat} {v : Value} {l : List Int} (h : w.ownsRow N 2 1 v l.length (l.map (Value.int .i64))) : OwnNums N w v l := by
  obtain ⟨_, h⟩ := h
  rcases h with ⟨rfl, h⟩ | ⟨g, cap, cur, rfl, hb, hg, hc, hm, hs, ht⟩
  · exact .inl ⟨rfl, List.eq_nil_of_length_eq_zero (by simpa using h)⟩
  · refine .inr ⟨g, 0, cap, cur, rfl, hb, hg, hc, by simp [hs], fun i hi => ?_⟩
    have h1 : (cur.toList.take (l.length * 1))[i]? = (l.map (Value.int .i64))[i]? := by
      rw [Nat.mul_one] at ht ⊢
      rw [ht]
    rw [Nat.mul_one, List.getElem?_take_of_lt hi, List.getElem?_map] at h1
    rw [Nat.zero_add, ← Array.getElem?_toList, h1]
    simp [List.getD, List.getElem?_eq_getElem hi]

theorem info2 : (Tryd.prog.info? 2).map (fun i => (i.zero, i.size, i.bytes)) = some (some (.int .i64 0), 1, 8) := by kernel_rfl
theorem nums_src {w : World} {ad : Addr} {c : Nat} {l : List Int} (h : Nums w (.slice (some ad) l.length c) l) : SrcOf w 1 (.slice (some ad) l.length c) l.length (l.map (Value.int .i64)) := by
  obtain ⟨ao, c', e, h⟩ := h
  cases e
  refine ⟨by simp, fun u hu => ?_, .inr ⟨ad, c, rfl, fun j u hj => ?_⟩⟩
  · obtain ⟨x, _, rfl⟩ := List.mem_map.1 hu
    rfl
  · rw [List.getElem?_map] at hj
    obtain ⟨x, hx, rfl⟩ := Option.map_eq_some_iff.1 hj
    have hlt : j < l.length := (List.getElem?_eq_some_iff.1 hx).1
    rcases h with rfl | ⟨g, o, e, hc⟩
    · simp at hlt
    · cases e
      rw [addr_add, hc j hlt]
      simp [List.getD, hx]

set_option maxRecDepth 100000 in
set_option maxHeartbeats 4000000 in
theorem clone_walk (v : Value) (l : List Int) (w : World) (h : Nums w v l) (hl : l.length ≤ 4000000) :
    Calls Tryd.prog 35 #[v] w fun e w' => ∃ v', e = .returned v' ∧ OwnNums w.heap.size w' v' l ∧ Below w.heap.size w w' := by
  obtain ⟨i0, hi0, hz0, hz1, hz2⟩ := info_parts info2
  have h' := h
  obtain ⟨ao, c, rfl, h⟩ := h
  cases ao with
  | none =>
    have hl0 : l = [] := by
      rcases h with h | ⟨g, o, e, _⟩
      · exact h
      · cases e
    subst hl0
    clear h h'
    have hnil : ∀ w, (binOp .eql 22 (.slice none ([] : List Int).length c) (.slice none 0 0)).run Tryd.prog w = .ok (.bool true) w := fun w => Lib.run_eql_slice_nil w 22 2 none 0 c 0 0 Tryd.underlying22
    simp only [List.length_nil] at hnil
    go_enter Tryd.func35, Tryd.ntmps35
    go_wp2_with fail
    go_ret
    exact ⟨_, rfl, .inl ⟨rfl, rfl⟩, Below.refl _ _⟩
  | some ad =>
    have HSX := Lib.hid (nums_src (h'.below ((Below.refl _ _).alloc (Nat.le_refl _) (.cells #[] 2))))
    have HOW : Hid ((w.alloc (.cells #[] 2)).ownsRow w.heap.size 2 1 (.slice (some ⟨w.heap.size, 0, none⟩) 0 0) 0 []) := ⟨rfl, .inr ⟨w.heap.size, 0, #[], rfl, Nat.le_refl _, heap_alloc_new w _, Nat.le_refl _, by decide, rfl, rfl⟩⟩
    have HB : Hid (Below w.heap.size w (w.alloc (.cells #[] 2))) := (Below.refl _ _).alloc (Nat.le_refl _) _
    clear h h'
    have hnil : ∀ w, (binOp .eql 22 (.slice (some ad) l.length c) (.slice none 0 0)).run Tryd.prog w = .ok (.bool false) w := fun w => Lib.run_eql_slice_nil w 22 2 (some ad) _ c 0 0 Tryd.underlying22
    go_enter Tryd.func35, Tryd.ntmps35
    go_wp2_with (at_builtin; go_must (refine wpList_append_row rfl (.tmp 5) (.tmp 6) 22 rfl w.heap.size 2 i0 _ 1 8 Tryd.underlying22 hi0 hz0 hz1 (by decide) hz2 rfl (.slice (some ⟨w.heap.size, 0, none⟩) 0 0) 0 [] rfl HOW.out l.length (l.map (Value.int .i64)) HSX.out ?l2 ?b2 ?n2 ?_); go_must (case l2 => (unfold maxLen; omega)); go_must (case b2 => omega); go_must (case n2 => (simp)); intro v' w' ha; have HA := Lib.hid ha; clear ha)
    go_ret
    obtain ⟨h1, h2, h3⟩ := HA.out
    refine ⟨_, rfl, owned_nums (by simpa using h1), HB.out.grown h2 (by simp) (fun k hk => ?_)⟩
    cases hk
    exact Nat.le_refl _
end Go.Proofs.YtfcaebceklhbkaaDoor
