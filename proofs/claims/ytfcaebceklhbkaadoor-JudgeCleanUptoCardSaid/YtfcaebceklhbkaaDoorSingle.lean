/-
  The contracts of judge.number, judge.single, slices.Clone: what an operation makes of one number.
-/
import Derived.Test.YtfcaebceklhbkaaDoorEarliest
namespace Go.Proofs.YtfcaebceklhbkaaDoor
open Go.RowKit
set_option linter.unusedVariables false

/-- A slice of numbers, as it reads. -/
def Nums (w : World) (v : Value) (l : List Int) : Prop :=
  ∃ ao c, v = .slice ao l.length c ∧ (l = [] ∨ ∃ g o, ao = some ⟨g, o, none⟩ ∧ ∀ i, i < l.length → w.cell? ⟨g, o + i, none⟩ = some (.int .i64 (l.getD i 0)))
theorem Nums.below {w w' : World} {v : Value} {l : List Int} (h : Nums w v l) (hb : Below w.heap.size w w') : Nums w' v l := by
  obtain ⟨ao, c, e, h⟩ := h
  refine ⟨ao, c, e, ?_⟩
  rcases h with h | ⟨g, o, e, hc⟩
  · exact .inl h
  · exact .inr ⟨g, o, e, fun i hi => (hb.cell (p := ⟨g, o + i, none⟩) (World.block_lt_of_cell? w _ (hc i hi))).trans (hc i hi)⟩
/-- A row of numbers of the call's own: in a block from N on. -/
def OwnNums (N : Nat) (w : World) (v : Value) (l : List Int) : Prop :=
  (v = .slice none 0 0 ∧ l = []) ∨ ∃ g o c cur, v = .slice (some ⟨g, o, none⟩) l.length c ∧ N ≤ g ∧ w.heap[g]? = some (.cells cur 2 (0, 0)) ∧ l.length ≤ c ∧ o + c ≤ cur.size ∧ ∀ i, i < l.length → cur[o + i]? = some (.int .i64 (l.getD i 0))
theorem OwnNums.nums {N : Nat} {w : World} {v : Value} {l : List Int} (h : OwnNums N w v l) : Nums w v l := by
  rcases h with ⟨rfl, rfl⟩ | ⟨g, o, c, cur, rfl, hg, hb, hc, hs, hx⟩
  · exact ⟨none, 0, rfl, .inl rfl⟩
  · exact ⟨_, c, rfl, .inr ⟨g, o, rfl, fun i hi => by rw [cell_of hb]; exact hx i hi⟩⟩

/-- An operation as a value; an answer as one. -/
def opV (k a b c : Int) : Value := .agg #[.int .i64 k, .int .i64 a, .int .i64 b, .int .i64 c]
def ansV (ok : Bool) (n : Int) : Value := .agg #[.bool ok, .int .i64 n, .slice none 0 0]

/-- What an operation of a register (1) or a counter (2) makes of a number. -/
def singleF (o v k a b : Int) : Int × Bool × Int :=
  if k = 1 then (v, true, v) else if k = 2 ∧ o = 1 then (a, true, 0) else if k = 2 then (wrap64 (v + a), true, wrap64 (v + a)) else if k = 3 ∧ o = 2 then (0, true, v) else if k = 3 ∧ v = a then (b, true, 0) else (v, false, 0)

theorem load_ans (w : World) (N : Nat) (a b c : Value) (h0 : w.cell? ⟨N, 0, none⟩ = some a) (h1 : w.cell? ⟨N, 1, none⟩ = some b) (h2 : w.cell? ⟨N, 2, none⟩ = some c) :
    (loadVar 26 ⟨N, 0, none⟩).run Tryd.prog w = .ok (.agg #[a, b, c]) w := by
  simp [loadVar, go_sem, h0, h1, h2]

theorem number_walk (v : Value) (l : List Int) (w : World) (h : Nums w v l) (hl : l.length ≤ 4000000) :
    Calls Tryd.prog 37 #[v] w fun e w' => e = .returned (.int .i64 (l.headD 0)) ∧ w' = w := by
  obtain ⟨ao, c, rfl, h⟩ := h
  cases l with
  | nil =>
    clear h
    go_enter Tryd.func37, Tryd.ntmps37
    go_wp2_with fail
    go_ret
    exact ⟨rfl, rfl⟩
  | cons x l =>
    obtain ⟨g, o, rfl, hc⟩ : ∃ g o, ao = some ⟨g, o, none⟩ ∧ ∀ i, i < (x :: l).length → w.cell? ⟨g, o + i, none⟩ = some (.int .i64 ((x :: l).getD i 0)) := by
      rcases h with h | h
      · cases h
      · exact h
    have h0 := hc 0 (by simp)
    simp only [List.getD_cons_zero, Nat.add_zero] at h0
    clear hc h
    simp only [List.length_cons] at hl ⊢
    generalize hn : l.length + 1 = n at *
    have hn1 : 0 < n := by omega
    clear hn
    have hx : (n : Int) ≠ 0 := by omega
    have hx2 : ((n : Int) == 0) = false := by rw [beq_eq_false_iff_ne]; exact hx
    go_enter Tryd.func37, Tryd.ntmps37
    go_wp2_with fail
    go_ret
    exact ⟨rfl, rfl⟩

theorem cell_two (w : World) (o : Obj) (cs : Array Value) (T i : Nat) : ((w.alloc o).alloc (.cells cs T)).cell? ⟨w.heap.size + 1, i, none⟩ = cs[i]? := by
  have h := heap_alloc_new (w.alloc o) (.cells cs T)
  rw [show (w.alloc o).heap.size = w.heap.size + 1 by simp] at h
  exact cell_of h i
theorem below_two (w : World) (o p : Obj) : Below w.heap.size w ((w.alloc o).alloc p) := ((Below.refl _ _).alloc (Nat.le_refl _) _).alloc (by simp) _
/-- What single answers: the tuple, and nothing below touched. -/
def DoneS (r : Int × Bool × Int) (w : World) (e : Ending) (w' : World) : Prop := e = .returned (.tuple #[.int .i64 r.1, ansV r.2.1 r.2.2]) ∧ Below w.heap.size w w'
theorem fin_single {r0 r : Int × Bool × Int} {w : World} {cs : Array Value} {X : Obj} {act : Act} (hd : act.defers = []) (h7 : act.tmps.getD 7 undef = .pointer (some ⟨w.heap.size + 1, 0, none⟩)) (h6 : act.tmps.getD 6 undef = .int .i64 r.1)
    (w' : World) (hw : w' = (w.alloc X).alloc (.cells cs 26) ∨ ∃ n, w' = ((w.alloc X).alloc (.cells cs 26)).drewN n) (hcs : cs = #[.bool r.2.1, .int .i64 r.2.2, .slice none 0 0]) (hr : r0 = r) :
    bodyPost Tryd.prog Tryd.f36 (DoneS r0 w) .ret act w' := by
  have hc : ∀ i, w'.cell? ⟨w.heap.size + 1, i, none⟩ = cs[i]? := by
    intro i
    rcases hw with rfl | ⟨n, rfl⟩
    · exact cell_two _ _ _ _ _
    · exact cell_two _ _ _ _ _
  have hb : Below w.heap.size w w' := by
    rcases hw with rfl | ⟨n, rfl⟩
    · exact below_two _ _ _
    · exact (below_two _ _ _).trans ⟨rfl, rfl, rfl, Nat.le_refl _, fun _ _ => rfl⟩
  subst hcs hr
  obtain ⟨tmps, defers⟩ := act
  subst hd
  have hr := results_tmp_cell (fn := Tryd.f36) (p := 7) (u := 6) (ty := 26) rfl tmps Tryd.prog w' _ ⟨w.heap.size + 1, 0, none⟩ h7 (load_ans w' _ _ _ _ (hc 0) (hc 1) (hc 2))
  rw [h6] at hr
  exact bodyPost_ret hr rfl ⟨rfl, hb⟩

set_option maxRecDepth 100000 in
set_option maxHeartbeats 4000000 in
theorem single_walk (o v k a b c : Int) (w : World) : Calls Tryd.prog 36 #[.int .i64 o, .int .i64 v, opV k a b c] w (DoneS (singleF o v k a b) w) := by
  have H : Hid (singleF o v k a b = if k = 1 then (v, true, v) else if k = 2 ∧ o = 1 then (a, true, 0) else if k = 2 then (wrap64 (v + a), true, wrap64 (v + a)) else if k = 3 ∧ o = 2 then (0, true, v) else if k = 3 ∧ v = a then (b, true, 0) else (v, false, 0)) := rfl
  unfold opV
  go_enter Tryd.func36, Tryd.ntmps36
  go_wp2_with fail
  all_goals (try (go_region; go_wp2_with fail))
  all_goals (try simp only [Exit.inBlock, Exit.then])
  · refine fin_single (r := (v, true, v)) rfl rfl rfl _ (.inl rfl) rfl ?_
    clear H; unfold singleF; simp_all
  · refine fin_single (r := (a, true, 0)) rfl rfl rfl _ (.inl rfl) rfl ?_
    clear H; unfold singleF; simp_all
  · refine fin_single (r := (wrap64 (v + a), true, wrap64 (v + a))) rfl rfl rfl _ (.inr ⟨1, rfl⟩) rfl ?_
    clear H; unfold singleF; simp_all
  · refine fin_single (r := (0, true, v)) rfl rfl rfl _ (.inl rfl) rfl ?_
    clear H; unfold singleF; simp_all
  · refine fin_single (r := (b, true, 0)) rfl rfl rfl _ (.inl rfl) rfl ?_
    clear H; unfold singleF; simp_all
  · refine fin_single (r := (v, false, 0)) rfl rfl rfl _ (.inl rfl) rfl ?_
    clear H; unfold singleF; simp_all
  · refine fin_single (r := (v, false, 0)) rfl rfl rfl _ (.inl rfl) rfl ?_
    clear H; unfold singleF; simp_all
end Go.Proofs.YtfcaebceklhbkaaDoor
