/-
  The contracts of the document's number and one. Printed in part out of YtfcaebceklhbkaaDoorSingle.lean.
-/
import Derived.Test.YtfcaebceklhbkaaDoorSingle
namespace Go.Proofs.YtfcaebceklhbkaaDoor
open Go.RowKit
set_option linter.unusedVariables false

theorem refNumber_walk (v : Value) (l : List Int) (w : World) (h : Nums w v l) (hl : l.length ≤ 4000000) :
    Calls Tryd.prog 42 #[v] w fun e w' => e = .returned (.int .i64 (l.headD 0)) ∧ w' = w := by
  obtain ⟨ao, c, rfl, h⟩ := h
  cases l with
  | nil =>
    clear h
    go_enter Tryd.func42, Tryd.ntmps42
    go_wp2_with fail
    go_ret
    exact ⟨rfl, rfl⟩
  | cons x l =>
    obtain ⟨g, o, rfl, hc⟩ : ∃ g o, ao = some ⟨g, o, none⟩ ∧ ∀ i, i < (x :: l).length → w.cell? ⟨g, o + i, none⟩ = some (.int .i64 ((x :: l).getD i 0)) := by
      rcases h with h | h
      · cases h
      · exact h
    have h0 := hc 0 (by simp)
    simp only [List.getD_cons_zero, Nat.add_zero] at h0
    clear hc h
    simp only [List.length_cons] at hl ⊢
    generalize hn : l.length + 1 = n at *
    have hn1 : 0 < n := by omega
    clear hn
    have hx : (n : Int) ≠ 0 := by omega
    have hx2 : ((n : Int) == 0) = false := by rw [beq_eq_false_iff_ne]; exact hx
    go_enter Tryd.func42, Tryd.ntmps42
    go_wp2_with fail
    go_ret
    exact ⟨rfl, rfl⟩


theorem fin_one {r0 r : Int × Bool × Int} {w : World} {cs : Array Value} {X : Obj} {act : Act} (hd : act.defers = []) (h7 : act.tmps.getD 7 undef = .pointer (some ⟨w.heap.size + 1, 0, none⟩)) (h6 : act.tmps.getD 6 undef = .int .i64 r.1)
    (w' : World) (hw : w' = (w.alloc X).alloc (.cells cs 26) ∨ ∃ n, w' = ((w.alloc X).alloc (.cells cs 26)).drewN n) (hcs : cs = #[.bool r.2.1, .int .i64 r.2.2, .slice none 0 0]) (hr : r0 = r) :
    bodyPost Tryd.prog Tryd.f43 (DoneS r0 w) .ret act w' := by
  have hc : ∀ i, w'.cell? ⟨w.heap.size + 1, i, none⟩ = cs[i]? := by
    intro i
    rcases hw with rfl | ⟨n, rfl⟩
    · exact cell_two _ _ _ _ _
    · exact cell_two _ _ _ _ _
  have hb : Below w.heap.size w w' := by
    rcases hw with rfl | ⟨n, rfl⟩
    · exact below_two _ _ _
    · exact (below_two _ _ _).trans ⟨rfl, rfl, rfl, Nat.le_refl _, fun _ _ => rfl⟩
  subst hcs hr
  obtain ⟨tmps, defers⟩ := act
  subst hd
  have hr := results_tmp_cell (fn := Tryd.f43) (p := 7) (u := 6) (ty := 26) rfl tmps Tryd.prog w' _ ⟨w.heap.size + 1, 0, none⟩ h7 (load_ans w' _ _ _ _ (hc 0) (hc 1) (hc 2))
  rw [h6] at hr
  exact bodyPost_ret hr rfl ⟨rfl, hb⟩

set_option maxRecDepth 100000 in
set_option maxHeartbeats 4000000 in
theorem refOne_walk (o v k a b c : Int) (w : World) (ho : o = 1 ∨ o = 2) : Calls Tryd.prog 43 #[.int .i64 o, .int .i64 v, opV k a b c] w (DoneS (singleF o v k a b) w) := by
  have H : Hid (singleF o v k a b = if k = 1 then (v, true, v) else if k = 2 ∧ o = 1 then (a, true, 0) else if k = 2 then (wrap64 (v + a), true, wrap64 (v + a)) else if k = 3 ∧ o = 2 then (0, true, v) else if k = 3 ∧ v = a then (b, true, 0) else (v, false, 0)) := rfl
  unfold opV
  go_enter Tryd.func43, Tryd.ntmps43
  go_wp2_with fail
  all_goals (try (go_region; go_wp2_with fail))
  all_goals (try simp only [Exit.inBlock, Exit.then])
  all_goals (try simp only [Exit.inBlock, Exit.then])
  all_goals (clear H)
  all_goals (first
    | (refine fin_one (r := (v, true, v)) rfl rfl rfl _ (.inl rfl) rfl ?_; unfold singleF; simp_all; done)
    | (refine fin_one (r := (a, true, 0)) rfl rfl rfl _ (.inl rfl) rfl ?_; unfold singleF; simp_all; done)
    | (refine fin_one (r := (wrap64 (v + a), true, wrap64 (v + a))) rfl rfl rfl _ (.inr ⟨1, rfl⟩) rfl ?_; unfold singleF; simp_all; done)
    | (refine fin_one (r := (0, true, v)) rfl rfl rfl _ (.inl rfl) rfl ?_; unfold singleF; simp_all; done)
    | (refine fin_one (r := (b, true, 0)) rfl rfl rfl _ (.inl rfl) rfl ?_; unfold singleF; simp_all; done)
    | (refine fin_one (r := (v, false, 0)) rfl rfl rfl _ (.inl rfl) rfl ?_; unfold singleF; rcases ho with rfl | rfl <;> simp_all; done)
    | (refine fin_one (r := (v, false, 0)) rfl rfl rfl _ (.inl rfl) rfl ?_; unfold singleF; simp_all; done))
end Go.Proofs.YtfcaebceklhbkaaDoor
