/-
  Merged out of: DoAll RefDo SameN Does.
-/
import Derived.Test.YtfcaebceklhbkaaDoorG2
import Derived.Test.YtfcaebceklhbkaaDoorOn
import Derived.Deep.RegionHeld3
import Derived.Deep.DeepCutAuto
import Derived.Test.YtfcaebceklhbkaaDoorOnStep
import Derived.Test.YtfcaebceklhbkaaDoorG1
import Derived.Lib.AppendZeros
import Derived.Test.YtfcaebceklhbkaaDoorMay
import Derived.Test.YtfcaebceklhbkaaDoorSameA
/-
  The contract of judge.Do for every object.
-/
namespace Go.Proofs.YtfcaebceklhbkaaDoor
open Go.RowKit
set_option linter.unusedVariables false

theorem OwnNums.mono {N N0 : Nat} {w : World} {v : Value} {l : List Int} (h : OwnNums N w v l) (hN : N0 ≤ N) : OwnNums N0 w v l := by
  rcases h with h | ⟨g, p, c, cur, e, hg, h⟩
  · exact .inl h
  · exact .inr ⟨g, p, c, cur, e, by omega, h⟩

set_option maxRecDepth 100000 in
set_option maxHeartbeats 8000000 in
theorem doRest_walk (o : Int) (ho1 : o ≠ 1) (ho2 : o ≠ 2) (v : Value) (l : List Int) (k a b c : Int) (w : World) (h : Nums w v l) (hl : l.length ≤ 4000000) :
    Calls Tryd.prog 12 #[.int .i64 o, v, opV k a b c] w (DoneD (doF o l k a b) w) := by
  have HB2 : Hid (Below w.heap.size w ((w.alloc (.cells #[.int .i64 k, .int .i64 a, .int .i64 b, .int .i64 c] 31)).alloc (.cells #[.bool false, .int .i64 0, .slice none 0 0] 26))) := below_two _ _ _
  have HNU := Lib.hid (h.below HB2.out)
  have hw2 : ((w.alloc (.cells #[.int .i64 k, .int .i64 a, .int .i64 b, .int .i64 c] 31)).alloc (.cells #[.bool false, .int .i64 0, .slice none 0 0] 26)).heap.size = w.heap.size + 2 := by simp
  have hop : ((w.alloc (.cells #[.int .i64 k, .int .i64 a, .int .i64 b, .int .i64 c] 31)).alloc (.cells #[.bool false, .int .i64 0, .slice none 0 0] 26)).heap[w.heap.size]? = some (.cells #[.int .i64 k, .int .i64 a, .int .i64 b, .int .i64 c] 31 (0, 0)) := by
    rw [Below.heap_alloc _ _ _ (by simp)]
    exact heap_alloc_new w _
  have hrs : ((w.alloc (.cells #[.int .i64 k, .int .i64 a, .int .i64 b, .int .i64 c] 31)).alloc (.cells #[.bool false, .int .i64 0, .slice none 0 0] 26)).heap[w.heap.size + 1]? = some (.cells #[.bool false, .int .i64 0, .slice none 0 0] 26 (0, 0)) := by
    have := heap_alloc_new (w.alloc (.cells #[.int .i64 k, .int .i64 a, .int .i64 b, .int .i64 c] 31)) (.cells #[.bool false, .int .i64 0, .slice none 0 0] 26)
    simpa using this
  have HOP := Lib.hid hop
  have HRS := Lib.hid hrs
  have HW2 := Lib.hid hw2
  have e1 : (o == 1) = false := by rw [beq_eq_false_iff_ne]; exact ho1
  have e2 : (o == 2) = false := by rw [beq_eq_false_iff_ne]; exact ho2
  have HF : Hid (doF o l k a b = if o = 3 ∨ o = 4 then rowF o l k a else if o = 5 then setF l k a else (l, false, 0)) := by
    show doF o l k a b = _
    unfold doF
    rw [if_neg (by omega)]
  clear h hop hrs hw2
  unfold opV at *
  go_enter Tryd.func12, Tryd.ntmps12
  go_wp2_with fail
  generalize (w.alloc (.cells #[.int .i64 k, .int .i64 a, .int .i64 b, .int .i64 c] 31)).alloc (.cells #[.bool false, .int .i64 0, .slice none 0 0] 26) = w2 at *
  generalize hN : w.heap.size = N at *
  have HN := Lib.hid hN
  clear hN
  refine (clone_row v l w2 HNU.out hl).mono ?_
  rintro e w3 ⟨s, rfl, hs, hb3⟩
  have hsz : w2.heap.size ≤ w3.heap.size := hb3.size
  rw [HW2.out] at hs hb3 hsz
  have HS := Lib.hid hs
  have HB3 := Lib.hid (HB2.out.trans (hb3.mono (by omega)))
  have hop3 : w3.heap[N]? = some (.cells #[.int .i64 k, .int .i64 a, .int .i64 b, .int .i64 c] 31 (0, 0)) := (hb3.block N (by omega)).trans HOP.out
  have hrs3 : w3.heap[N + 1]? = some (.cells #[.bool false, .int .i64 0, .slice none 0 0] 26 (0, 0)) := (hb3.block (N + 1) (by omega)).trans HRS.out
  have HOP3 := Lib.hid hop3
  have HRS3 := Lib.hid hrs3
  clear hs hb3
  by_cases ho34 : o = 3 ∨ o = 4
  · have HX := Lib.hid (show doF o l k a b = rowF o l k a from by rw [hid_eq HF, if_pos ho34])
    have c0 := (cell_of hop3 0).trans rfl
    have c1 := (cell_of hop3 1).trans rfl
    have c2 := (cell_of hop3 2).trans rfl
    have c3 := (cell_of hop3 3).trans rfl
    have H38 : Hid (Calls Tryd.prog 38 #[.int .i64 o, s, .agg #[.int .i64 k, .int .i64 a, .int .i64 b, .int .i64 c]] w3 fun e w' => ∃ v', e = .returned (.tuple #[v', .agg #[.bool (rowF o l k a).2.1, .int .i64 (rowF o l k a).2.2, .slice none 0 0]]) ∧ OwnNums (N + 2) w' v' (rowF o l k a).1 ∧ Below (N + 2) w3 w') :=
      row_walk (N + 2) o ho34 s l k a b c w3 hsz HS.out hl
    generalize rowF o l k a = x at *
    obtain ⟨xl, xo, xn⟩ := x
    simp only at H38
    clear HF hop3 hrs3
    rcases ho34 with rfl | rfl
    all_goals
      go_wp2_with fail
      refine H38.out.mono ?_
      rintro e w4 ⟨v4, rfl, ho4, hb4⟩
      have HO4 := Lib.hid (ho4.mono (show N ≤ N + 2 by omega))
      have hr4 := (hb4.block (N + 1) (by omega)).trans HRS3.out
      have HR4 := Lib.hid hr4
      have HB4 := Lib.hid (HB3.out.trans (hb4.mono (show N ≤ N + 2 by omega)))
      have s0 := (cell_of hr4 0).trans rfl
      have s1 := (cell_of hr4 1).trans rfl
      have s2 := (cell_of hr4 2).trans rfl
      have s3 := free_of hr4 0
      have s4 := free_of hr4 1
      have s5 := free_of hr4 2
      clear ho4 hr4 hb4 c0 c1 c2 c3
      go_wp2_with fail
      all_goals (try simp only [Exit.inBlock, Exit.then])
      rw [HX.out]
      show bodyPost Tryd.prog Tryd.f12 (DoneR w.heap.size (xl, xo, xn) w) _ _ _
      rw [HN.out]
      exact fin_op (fn := Tryd.f12) (u := 6) (p := 7) (v := v4) rfl rfl rfl rfl (show N ≤ N + 1 by omega) HB4.out HR4.out HO4.out _ (.inl rfl)
  · have e3 : (o == 3) = false := by rw [beq_eq_false_iff_ne]; omega
    have e4 : (o == 4) = false := by rw [beq_eq_false_iff_ne]; omega
    by_cases ho5 : o = 5
    · subst ho5
      have HX := Lib.hid (show doF 5 l k a b = setRF (Lib.compact (sortF l)) k a from by rw [hid_eq HF, if_neg ho34, if_pos rfl, show Lib.compact (sortF l) = riseF l from compact_sort l]; rfl)
      have HRI : Hid (Rise (Lib.compact (sortF l))) := by
        have := compact_sort l
        rw [show Lib.compact (sortF l) = riseF l from this]
        exact riseF_rise l
      have hcl : (Lib.compact (sortF l)).length ≤ 4000000 := by
        have := riseF_length l
        rw [show Lib.compact (sortF l) = riseF l from compact_sort l]
        omega
      have hsl : (sortF l).length ≤ 4000000 := by rw [sortF_length]; exact hl
      obtain ⟨so, sc, rfl⟩ : ∃ so sc, s = .slice so l.length sc := by
        rcases HS.out.2 with ⟨e, h0⟩ | ⟨g, cap, _, e, _⟩
        · exact ⟨none, 0, by rw [e, h0]⟩
        · exact ⟨_, cap, e⟩
      have H41 : Hid (∀ W, W.ownsRow (N + 2) 2 1 (.slice so l.length sc) l.length (numV (sortF l)) → Calls Tryd.prog 41 #[.slice so l.length sc] W fun e w' =>
          e = .returned (.slice so (Lib.compact (sortF l)).length sc) ∧ w'.ownsRow (N + 2) 2 1 (.slice so (Lib.compact (sortF l)).length sc) (Lib.compact (sortF l)).length (numV (Lib.compact (sortF l))) ∧ Below (N + 2) W w') := fun W hW => by
        have := compact_row (N + 2) sc so (sortF l) W hsl (by rw [sortF_length]; exact hW)
        rwa [sortF_length] at this
      have H40 : Hid (∀ W, N + 2 ≤ W.heap.size → W.ownsRow (N + 2) 2 1 (.slice so (Lib.compact (sortF l)).length sc) (Lib.compact (sortF l)).length (numV (Lib.compact (sortF l))) →
          Calls Tryd.prog 40 #[.slice so (Lib.compact (sortF l)).length sc, .agg #[.int .i64 k, .int .i64 a, .int .i64 b, .int .i64 c]] W fun e w' => ∃ v', e = .returned (.tuple #[v', .agg #[.bool (setRF (Lib.compact (sortF l)) k a).2.1, .int .i64 (setRF (Lib.compact (sortF l)) k a).2.2, .slice none 0 0]]) ∧ OwnNums (N + 2) w' v' (setRF (Lib.compact (sortF l)) k a).1 ∧ Below (N + 2) W w') :=
        fun W hW hr => set_walk (N + 2) sc so (Lib.compact (sortF l)) k a b c W hW HRI.out hcl hr
      have HSO := Lib.hid (sort_row (N + 2) sc so l w3 hl HS.out)
      clear HF hop3 hrs3 HRI hcl hsl
      generalize setRF (Lib.compact (sortF l)) k a = x at *
      generalize Lib.compact (sortF l) = R at *
      generalize sortF l = SL at *
      obtain ⟨xl, xo, xn⟩ := x
      simp only at H40
      go_wp2_with fail
      refine HSO.out.mono ?_
      clear HSO
      rintro e w4 ⟨rfl, hs4, hb4⟩
      have HS4 := Lib.hid hs4
      have HB4 := Lib.hid hb4
      have hsz4 : N + 2 ≤ w4.heap.size := Nat.le_trans hsz hb4.size
      have hop4 := (hb4.block N (by omega)).trans HOP3.out
      have hrs4 := (hb4.block (N + 1) (by omega)).trans HRS3.out
      have HRS4 := Lib.hid hrs4
      have c0 := (cell_of hop4 0).trans rfl
      have c1 := (cell_of hop4 1).trans rfl
      have c2 := (cell_of hop4 2).trans rfl
      have c3 := (cell_of hop4 3).trans rfl
      have HOP4 := Lib.hid hop4
      clear hs4 hb4 hop4 hrs4
      go_wp2_with fail
      go_region_with (first
        | (go_at_call 41; refine (H41.out _ ?_).mono ?_; exact HS4.out; rintro e w6 ⟨rfl, hs6, hb6⟩; have HS6 := Lib.hid hs6; have HB6 : Hid (Below (N + 2) w4 w6) := (Below.refl _ _).drew.trans hb6; have hop6 := (hb6.block N (by omega)).trans HOP4.out; have d0 := (cell_of hop6 0).trans rfl; have d1 := (cell_of hop6 1).trans rfl; have d2 := (cell_of hop6 2).trans rfl; have d3 := (cell_of hop6 3).trans rfl; clear hs6 hb6 hop6)
        | (go_at_call 40; refine (H40.out _ ?_ HS6.out).mono ?_; exact Nat.le_trans hsz4 HB6.out.size; rintro e w7 ⟨v7, rfl, ho7, hb7⟩; have HO7 := Lib.hid (ho7.mono (show N ≤ N + 2 by omega)); have hr7 := (hb7.block (N + 1) (by omega)).trans ((HB6.out.block (N + 1) (by omega)).trans HRS4.out); have HR7 := Lib.hid hr7; have HB7 := Lib.hid (HB3.out.trans ((HB4.out.trans (HB6.out.trans hb7)).mono (show N ≤ N + 2 by omega))); have s0 := (cell_of hr7 0).trans rfl; have s1 := (cell_of hr7 1).trans rfl; have s2 := (cell_of hr7 2).trans rfl; have s3 := free_of hr7 0; have s4 := free_of hr7 1; have s5 := free_of hr7 2; clear ho7 hr7 hb7))
      all_goals (go_wp2_with fail)
      all_goals (try simp only [Exit.inBlock, Exit.then])
      all_goals (rw [HX.out])
      all_goals (show bodyPost Tryd.prog Tryd.f12 (DoneR w.heap.size (xl, xo, xn) w) _ _ _)
      all_goals (rw [HN.out])
      all_goals (exact fin_op (fn := Tryd.f12) (u := 6) (p := 7) (v := v7) rfl rfl rfl rfl (show N ≤ N + 1 by omega) HB7.out HR7.out HO7.out _ (.inl rfl))
    · have e5 : (o == 5) = false := by rw [beq_eq_false_iff_ne]; exact ho5
      have HX := Lib.hid (show doF o l k a b = (l, false, 0) from by rw [hid_eq HF, if_neg ho34, if_neg ho5])
      have HO4 := Lib.hid ((owned_nums HS.out).mono (show N ≤ N + 2 by omega))
      have s0 := (cell_of hrs3 0).trans rfl
      have s1 := (cell_of hrs3 1).trans rfl
      have s2 := (cell_of hrs3 2).trans rfl
      have s3 := free_of hrs3 0
      have s4 := free_of hrs3 1
      have s5 := free_of hrs3 2
      clear HF hop3 hrs3
      go_wp2_with fail
      all_goals (try simp only [Exit.inBlock, Exit.then])
      rw [HX.out]
      show bodyPost Tryd.prog Tryd.f12 (DoneR w.heap.size (l, false, 0) w) _ _ _
      rw [HN.out]
      exact fin_op (fn := Tryd.f12) (u := 6) (p := 7) (v := s) rfl rfl rfl rfl (show N ≤ N + 1 by omega) HB3.out HRS3.out HO4.out _ (.inl rfl)
end Go.Proofs.YtfcaebceklhbkaaDoor

/-
  The contract of the document's Do, for every object; judge.Do's for every object.
-/
namespace Go.Proofs.YtfcaebceklhbkaaDoor
open Go.RowKit
set_option linter.unusedVariables false

theorem doOk_all (o : Int) : DoOk o := by
  intro v l k a b c w h hl
  by_cases h1 : o = 1
  · subst h1; exact doOne_walk 1 (.inl rfl) v l k a b c w h hl
  · by_cases h2 : o = 2
    · subst h2; exact doOne_walk 2 (.inr rfl) v l k a b c w h hl
    · exact doRest_walk o h1 h2 v l k a b c w h hl

theorem putS_len {r : List Int} {a : Int} (h : Rise r) : (putS a r).length = r.length + (if a ∈ r then 0 else 1) := by
  by_cases ha : a ∈ r
  · rw [putS_in h ha, if_pos ha]; rfl
  · rw [if_neg ha, ← insF_put h ha]
    have := below_le r a
    simp [insF]
    omega
theorem filter_len {r : List Int} {a : Int} (h : Rise r) : (r.filter (· ≠ a)).length + (if a ∈ r then 1 else 0) = r.length := by
  by_cases ha : a ∈ r
  · rw [if_pos ha, ← del_filter h ha]
    have := (below_at h ha).1
    simp
    omega
  · rw [if_neg ha, filter_out ha]; rfl

/-- append(nil, state...): a row of the call's own. -/
theorem app_state {w : World} {v : Value} {l : List Int} (h : Nums w v l) (hl : l.length ≤ 4000000) :
    ∃ v' w', (Builtin.append_ #[22, 22] 22 #[.slice none 0 0, v]).run Tryd.prog w = .ok v' w' ∧ w'.ownsRow w.heap.size 2 1 v' l.length (numV l) ∧ Below w.heap.size w w' := by
  obtain ⟨i0, hi0, hz0, hz1, hz2⟩ := info_parts info2
  have h' := h
  obtain ⟨ao, c, rfl, h⟩ := h
  cases ao with
  | none =>
    have hl0 : l = [] := by
      rcases h with h | ⟨g, o, e, _⟩
      · exact h
      · cases e
    subst hl0
    refine ⟨.slice none 0 0, w, ?_, World.ownsRow_nil _ _ _ _, Below.refl _ _⟩
    simp [Builtin.append_, run_underlying Tryd.underlying22, sizeOf, typeInfo, hi0, Builtin.lenOf, Builtin.firstCells]
  | some ad =>
    obtain ⟨v', w', hr, h1, h2, h3⟩ := run_append_row (P := Tryd.prog) w w.heap.size 22 22 2 i0 _ 1 8 Tryd.underlying22 hi0 hz0 hz1 (by decide) hz2 rfl (.slice none 0 0) 0 [] (World.ownsRow_nil _ _ _ _) (.slice (some ad) l.length c) l.length (l.map (Value.int .i64)) (nums_src h') (by unfold maxLen; omega) (by omega) (Nat.le_refl _)
    refine ⟨v', w', hr, by simpa [numV] using h1, (Below.refl _ _).grown h2 (Nat.le_refl _) (fun k hk => ?_)⟩
    cases hk
theorem ansC {w3 w' : World} {ok : Bool} {n : Int} (hb : Below w3.heap.size w3 w') : AnsAt w3 ok n (.pointer (some ⟨w'.heap.size, 0, none⟩)) (w'.alloc (.cells #[.bool ok, .int .i64 n, .slice none 0 0] 26)) :=
  ⟨_, rfl, heap_alloc_new w' _, hb.size, hb.alloc hb.size _⟩

set_option maxRecDepth 100000 in
set_option maxHeartbeats 8000000 in
theorem refDo_walk (o : Int) (v : Value) (l : List Int) (k a b c : Int) (w : World) (h : Nums w v l) (hl : l.length ≤ 4000000) :
    Calls Tryd.prog 13 #[.int .i64 o, v, opV k a b c] w (DoneD (doF o l k a b) w) := by
  have HB2 : Hid (Below w.heap.size w ((w.alloc (.cells #[.int .i64 k, .int .i64 a, .int .i64 b, .int .i64 c] 31)).alloc (.cells #[.bool false, .int .i64 0, .slice none 0 0] 26))) := below_two _ _ _
  obtain ⟨s, w3, hap, hs, hb3⟩ := app_state (h.below HB2.out) hl
  have HAP := Lib.hid hap
  have hw2 : ((w.alloc (.cells #[.int .i64 k, .int .i64 a, .int .i64 b, .int .i64 c] 31)).alloc (.cells #[.bool false, .int .i64 0, .slice none 0 0] 26)).heap.size = w.heap.size + 2 := by simp
  have hop : ((w.alloc (.cells #[.int .i64 k, .int .i64 a, .int .i64 b, .int .i64 c] 31)).alloc (.cells #[.bool false, .int .i64 0, .slice none 0 0] 26)).heap[w.heap.size]? = some (.cells #[.int .i64 k, .int .i64 a, .int .i64 b, .int .i64 c] 31 (0, 0)) := by
    rw [Below.heap_alloc _ _ _ (by simp)]
    exact heap_alloc_new w _
  have hrs : ((w.alloc (.cells #[.int .i64 k, .int .i64 a, .int .i64 b, .int .i64 c] 31)).alloc (.cells #[.bool false, .int .i64 0, .slice none 0 0] 26)).heap[w.heap.size + 1]? = some (.cells #[.bool false, .int .i64 0, .slice none 0 0] 26 (0, 0)) := by
    have := heap_alloc_new (w.alloc (.cells #[.int .i64 k, .int .i64 a, .int .i64 b, .int .i64 c] 31)) (.cells #[.bool false, .int .i64 0, .slice none 0 0] 26)
    simpa using this
  have HOP := Lib.hid hop
  have HRS := Lib.hid hrs
  have HW2 := Lib.hid hw2
  have HF : Hid (doF o l k a b = if o = 1 ∨ o = 2 then ([(singleF o (l.headD 0) k a b).1], (singleF o (l.headD 0) k a b).2) else if o = 3 ∨ o = 4 then rowF o l k a else if o = 5 then setRF (riseF l) k a else (l, false, 0)) := rfl
  have hsz : w.heap.size + 2 ≤ w3.heap.size := by
    have := hb3.size
    rwa [hw2] at this
  rw [hw2] at hs hb3
  have HS := Lib.hid hs
  have HB3 := Lib.hid (HB2.out.trans (hb3.mono (by omega)))
  have hop3 : w3.heap[w.heap.size]? = some (.cells #[.int .i64 k, .int .i64 a, .int .i64 b, .int .i64 c] 31 (0, 0)) := (hb3.block w.heap.size (by omega)).trans hop
  have hrs3 : w3.heap[w.heap.size + 1]? = some (.cells #[.bool false, .int .i64 0, .slice none 0 0] 26 (0, 0)) := (hb3.block (w.heap.size + 1) (by omega)).trans hrs
  have HOP3 := Lib.hid hop3
  have HRS3 := Lib.hid hrs3
  have HSN := Lib.hid (owned_nums hs).nums
  clear h hop hrs hw2 hs hb3 hap
  unfold opV at *
  go_enter Tryd.func13, Tryd.ntmps13
  by_cases ho12 : o = 1 ∨ o = 2
  · have HX := Lib.hid (show doF o l k a b = ([(singleF o (l.headD 0) k a b).1], (singleF o (l.headD 0) k a b).2) from by rw [hid_eq HF, if_pos ho12])
    have H43 : Hid (∀ W, Calls Tryd.prog 43 #[.int .i64 o, .int .i64 (l.headD 0), .agg #[.int .i64 k, .int .i64 a, .int .i64 b, .int .i64 c]] W fun e w' =>
      e = .returned (.tuple #[.int .i64 (singleF o (l.headD 0) k a b).1, .agg #[.bool (singleF o (l.headD 0) k a b).2.1, .int .i64 (singleF o (l.headD 0) k a b).2.2, .slice none 0 0]]) ∧ Below W.heap.size W w') := fun W => refOne_walk o _ k a b c W ho12
    have c0 := (cell_of hop3 0).trans rfl
    have c1 := (cell_of hop3 1).trans rfl
    have c2 := (cell_of hop3 2).trans rfl
    have c3 := (cell_of hop3 3).trans rfl
    have H42 := Lib.hid (refNumber_walk s l w3 HSN.out hl)
    clear HF hop3 hrs3
    generalize hx : singleF o (l.headD 0) k a b = x at *
    generalize l.headD 0 = x0 at *
    rcases ho12 with rfl | rfl
    all_goals
      go_wp2_with (at_builtin; go_must (refine Lib.wpList_append_run _ rfl _ _ _ _ rfl _ _ rfl rfl _ _ HAP.out ?_))
      refine H42.out.mono ?_
      rintro e w' ⟨rfl, rfl⟩
      go_wp2_with fail
      refine (H43.out _).mono ?_
      rintro e w4 ⟨rfl, hb⟩
      go_wp2_with fail
      obtain ⟨g, hgp, hg, hgs, hbx⟩ := ansC (ok := x.2.1) (n := x.2.2) hb
      cases hgp
      generalize w4.alloc (.cells #[.bool x.2.1, .int .i64 x.2.2, .slice none 0 0] 26) = wc at *
      generalize w4.heap.size = g at *
      have HG := Lib.hid hg
      have HBX := Lib.hid hbx
      have hr : wc.heap[w.heap.size + 1]? = some (.cells #[.bool false, .int .i64 0, .slice none 0 0] 26 (0, 0)) := (hbx.block _ (by omega)).trans HRS3.out
      have HR := Lib.hid hr
      have e0 := (cell_of hg 0).trans rfl
      have e1 := (cell_of hg 1).trans rfl
      have e2 := (cell_of hg 2).trans rfl
      have f0 : ∀ o, (wc.alloc o).cell? ⟨g, 0, none⟩ = some (.bool x.2.1) := fun o => (World.cell?_of_block (Below.heap_alloc _ _ _ (World.block_lt_of_cell? _ _ e0))).trans e0
      have f1 : ∀ o, (wc.alloc o).cell? ⟨g, 1, none⟩ = some (.int .i64 x.2.2) := fun o => (World.cell?_of_block (Below.heap_alloc _ _ _ (World.block_lt_of_cell? _ _ e1))).trans e1
      have f2 : ∀ o, (wc.alloc o).cell? ⟨g, 2, none⟩ = some (.slice none 0 0) := fun o => (World.cell?_of_block (Below.heap_alloc _ _ _ (World.block_lt_of_cell? _ _ e2))).trans e2
      have k0 : wc.cell? ⟨w.heap.size + 1, 0, none⟩ = some (.bool false) := (cell_of hr 0).trans rfl
      have k1 : wc.cell? ⟨w.heap.size + 1, 1, none⟩ = some (.int .i64 0) := (cell_of hr 1).trans rfl
      have k2 : wc.cell? ⟨w.heap.size + 1, 2, none⟩ = some (.slice none 0 0) := (cell_of hr 2).trans rfl
      have k3 := free_of hr 0
      have k4 := free_of hr 1
      have k5 := free_of hr 2
      have q0 : ∀ o, (wc.alloc o).cell? ⟨w.heap.size + 1, 0, none⟩ = some (.bool false) := fun o => (World.cell?_of_block (Below.heap_alloc _ _ _ (World.block_lt_of_cell? _ _ k0))).trans k0
      have q1 : ∀ o, (wc.alloc o).cell? ⟨w.heap.size + 1, 1, none⟩ = some (.int .i64 0) := fun o => (World.cell?_of_block (Below.heap_alloc _ _ _ (World.block_lt_of_cell? _ _ k1))).trans k1
      have q2 : ∀ o, (wc.alloc o).cell? ⟨w.heap.size + 1, 2, none⟩ = some (.slice none 0 0) := fun o => (World.cell?_of_block (Below.heap_alloc _ _ _ (World.block_lt_of_cell? _ _ k2))).trans k2
      have q3 : ∀ o, (wc.alloc o).frozen? ⟨w.heap.size + 1, 0, none⟩ = false := fun o => (World.frozen?_of_block (Below.heap_alloc _ _ _ (World.block_lt_of_cell? _ _ k0))).trans k3
      have q4 : ∀ o, (wc.alloc o).frozen? ⟨w.heap.size + 1, 1, none⟩ = false := fun o => (World.frozen?_of_block (Below.heap_alloc _ _ _ (World.block_lt_of_cell? _ _ k1))).trans k4
      have q5 : ∀ o, (wc.alloc o).frozen? ⟨w.heap.size + 1, 2, none⟩ = false := fun o => (World.frozen?_of_block (Below.heap_alloc _ _ _ (World.block_lt_of_cell? _ _ k2))).trans k5
      clear hg hbx hr
      go_wp2_with fail
      go_region
      all_goals (go_wp2_with fail)
      try simp only [Exit.inBlock, Exit.then]
      obtain ⟨z1, z2, z3⟩ := do_end w wc w.heap.size x.1 x.2.2 x.2.1 _ _ _ HR.out (HB3.out.trans (HBX.out.mono (by omega))) (by have := HBX.out.size; omega)
      rw [HX.out]
      refine bodyPost_ret (results_tmp_cell (fn := Tryd.f13) (u := 6) (p := 7) (ty := 26) rfl _ _ _ _ ⟨w.heap.size + 1, 0, none⟩ rfl (load_ans _ (w.heap.size + 1) _ _ _ ((cell_of z1 0).trans rfl) ((cell_of z1 1).trans rfl) ((cell_of z1 2).trans rfl))) rfl ⟨_, rfl, ?_, ?_⟩
      · exact z2
      · exact z3
  · have e1 : (o == 1) = false := by rw [beq_eq_false_iff_ne]; omega
    have e2 : (o == 2) = false := by rw [beq_eq_false_iff_ne]; omega
    by_cases ho34 : o = 3 ∨ o = 4
    · have HX := Lib.hid (show doF o l k a b = rowF o l k a from by rw [hid_eq HF, if_neg ho12, if_pos ho34])
      have c0 := (cell_of hop3 0).trans rfl
      have c1 := (cell_of hop3 1).trans rfl
      have c2 := (cell_of hop3 2).trans rfl
      have c3 := (cell_of hop3 3).trans rfl
      have H44 : Hid (Calls Tryd.prog 44 #[.int .i64 o, s, .agg #[.int .i64 k, .int .i64 a, .int .i64 b, .int .i64 c]] w3 fun e w' => ∃ v', e = .returned (.tuple #[v', .agg #[.bool (rowF o l k a).2.1, .int .i64 (rowF o l k a).2.2, .slice none 0 0]]) ∧ OwnNums (w.heap.size + 2) w' v' (rowF o l k a).1 ∧ Below (w.heap.size + 2) w3 w') :=
        refRow_walk (w.heap.size + 2) o ho34 s l k a b c w3 hsz HS.out hl
      generalize rowF o l k a = x at *
      obtain ⟨xl, xo, xn⟩ := x
      simp only at H44
      clear HF hop3 hrs3
      rcases ho34 with rfl | rfl
      all_goals
        go_wp2_with (at_builtin; go_must (refine Lib.wpList_append_run _ rfl _ _ _ _ rfl _ _ rfl rfl _ _ HAP.out ?_))
        refine H44.out.mono ?_
        rintro e w4 ⟨v4, rfl, ho4, hb4⟩
        have HO4 := Lib.hid (ho4.mono (show w.heap.size ≤ w.heap.size + 2 by omega))
        have hr4 := (hb4.block (w.heap.size + 1) (by omega)).trans HRS3.out
        have HR4 := Lib.hid hr4
        have HB4 := Lib.hid (HB3.out.trans (hb4.mono (show w.heap.size ≤ w.heap.size + 2 by omega)))
        have s0 := (cell_of hr4 0).trans rfl
        have s1 := (cell_of hr4 1).trans rfl
        have s2 := (cell_of hr4 2).trans rfl
        have s3 := free_of hr4 0
        have s4 := free_of hr4 1
        have s5 := free_of hr4 2
        clear ho4 hr4 hb4 c0 c1 c2 c3
        go_wp2_with fail
        all_goals (try simp only [Exit.inBlock, Exit.then])
        rw [HX.out]
        show bodyPost Tryd.prog Tryd.f13 (DoneR w.heap.size (xl, xo, xn) w) _ _ _
        exact fin_op (fn := Tryd.f13) (u := 6) (p := 7) (v := v4) rfl rfl rfl rfl (show w.heap.size ≤ w.heap.size + 1 by omega) HB4.out HR4.out HO4.out _ (.inl rfl)
    · have e3 : (o == 3) = false := by rw [beq_eq_false_iff_ne]; omega
      have e4 : (o == 4) = false := by rw [beq_eq_false_iff_ne]; omega
      by_cases ho5 : o = 5
      · have hX0 : doF o l k a b = setRF (riseF l) k a := by rw [hid_eq HF, if_neg ho12, if_neg ho34, if_pos ho5]
        subst ho5
        have HX := Lib.hid hX0
        clear hX0
        have H45 := Lib.hid (rising_walk s l w3 HSN.out hl)
        rw [riAt_rise l] at H45
        have HRI := Lib.hid (riseF_rise l)
        have hrl : (riseF l).length ≤ 4000000 := by have := riseF_length l; omega
        clear HF hop3 hrs3
        generalize riseF l = R at *
        go_wp2_with (at_builtin; go_must (refine Lib.wpList_append_run _ rfl _ _ _ _ rfl _ _ rfl rfl _ _ HAP.out ?_))
        refine H45.out.mono ?_
        rintro e w4 ⟨v4, rfl, hs4, hb4⟩
        have hsz4 : w.heap.size + 2 ≤ w4.heap.size := Nat.le_trans hsz hb4.size
        have HO4 := Lib.hid (owned_nums hs4)
        have hb4' : Below (w.heap.size + 2) w3 w4 := hb4.mono hsz
        have hop4 := (hb4'.block w.heap.size (by omega)).trans HOP3.out
        have hrs4 := (hb4'.block (w.heap.size + 1) (by omega)).trans HRS3.out
        have HRS4 := Lib.hid hrs4
        have HB4 := Lib.hid (HB3.out.trans (hb4'.mono (show w.heap.size ≤ w.heap.size + 2 by omega)))
        have c0 := (cell_of hop4 0).trans rfl
        have c1 := (cell_of hop4 1).trans rfl
        have c2 := (cell_of hop4 2).trans rfl
        have c3 := (cell_of hop4 3).trans rfl
        obtain ⟨ro, rc, rfl⟩ : ∃ ro rc, v4 = .slice ro R.length rc := by
          rcases hs4.2 with ⟨e, h0⟩ | ⟨g, cap, _, e, _⟩
          · exact ⟨none, 0, by rw [e, h0]⟩
          · exact ⟨_, cap, e⟩
        clear hs4 hb4 hb4' hop4 hrs4
        have hpl := putS_len (a := a) HRI.out
        have hfl := filter_len (a := a) HRI.out
        have hta : (decide (a ∈ R) = true) = (a ∈ R) := by simp
        by_cases hk1 : k = 1
        · subst hk1
          have HXX := Lib.hid (show doF 5 l 1 a b = (R, decide (a ∈ R), 0) from HX.out)
          have H4 := Lib.hid (put_walk (.slice ro R.length rc) R a w4 HO4.out.nums hrl)
          rw [putR_put HRI.out] at H4
          generalize hT : putS a R = T at *
          have hTl : T.length ≤ 4000001 := by split at hpl <;> omega
          have hcmp : ((T.length : Int) == (R.length : Int)) = decide (a ∈ R) := by
            by_cases ha : a ∈ R
            · rw [if_pos ha] at hpl; simp [ha, hpl]
            · rw [if_neg ha] at hpl; simp [ha, hpl]; omega
          have HC := Lib.hid hcmp
          clear hcmp hpl hfl
          go_wp2_with fail
          refine H4.out.mono ?_
          rintro e w5 ⟨v5, rfl, hs5, hb5⟩
          have hb5' : Below (w.heap.size + 2) w4 w5 := hb5.mono hsz4
          have hr5 := (hb5'.block (w.heap.size + 1) (by omega)).trans HRS4.out
          have HR5 := Lib.hid hr5
          have HB5 := Lib.hid (HB4.out.trans (hb5'.mono (show w.heap.size ≤ w.heap.size + 2 by omega)))
          have HO5 := Lib.hid ((owned_nums hs5).mono (show w.heap.size ≤ w4.heap.size by omega))
          have HO6 := Lib.hid (OwnNums.keep (N0 := w.heap.size) HO4.out (by omega) (fun g _ hg => hb5.block g hg))
          have s0 := (cell_of hr5 0).trans rfl
          have s1 := (cell_of hr5 1).trans rfl
          have s2 := (cell_of hr5 2).trans rfl
          have s3 := free_of hr5 0
          have s4 := free_of hr5 1
          have s5 := free_of hr5 2
          obtain ⟨te, tc, rfl⟩ : ∃ te tc, v5 = .slice te T.length tc := by
            rcases hs5.2 with ⟨e, h0⟩ | ⟨g, cap, _, e, _⟩
            · exact ⟨none, 0, by rw [e, h0]⟩
            · exact ⟨_, cap, e⟩
          clear hs5 hb5 hb5' hr5 c0 c1 c2 c3
          go_wp2_with fail
          all_goals (try simp only [Exit.inBlock, Exit.then])
          all_goals (rw [HXX.out, ← HC.out])
          all_goals (show bodyPost Tryd.prog Tryd.f13 (DoneR w.heap.size _ w) _ _ _)
          all_goals (exact fin_op (fn := Tryd.f13) (u := 6) (p := 7) (v := .slice ro R.length rc) rfl rfl rfl rfl (show w.heap.size ≤ w.heap.size + 1 by omega) HB5.out HR5.out HO6.out _ (.inl rfl))
        · have q1 : (k == 1) = false := by rw [beq_eq_false_iff_ne]; exact hk1
          by_cases hk2 : k = 2
          · subst hk2
            have HXX := Lib.hid (show doF 5 l 2 a b = (putS a R, !decide (a ∈ R), 0) from HX.out)
            have H4 := Lib.hid (put_walk (.slice ro R.length rc) R a w4 HO4.out.nums hrl)
            rw [putR_put HRI.out] at H4
            generalize hT : putS a R = T at *
            have hTl : T.length ≤ 4000001 := by split at hpl <;> omega
            have hcmp : decide (R.length < T.length) = !decide (a ∈ R) := by
              by_cases ha : a ∈ R
              · rw [if_pos ha] at hpl; simp [ha, hpl]
              · rw [if_neg ha] at hpl; simp [ha, hpl]
            have HC := Lib.hid hcmp
            clear hcmp hpl hfl
            go_wp2_with fail
            refine H4.out.mono ?_
            rintro e w5 ⟨v5, rfl, hs5, hb5⟩
            have hb5' : Below (w.heap.size + 2) w4 w5 := hb5.mono hsz4
            have hr5 := (hb5'.block (w.heap.size + 1) (by omega)).trans HRS4.out
            have HR5 := Lib.hid hr5
            have HB5 := Lib.hid (HB4.out.trans (hb5'.mono (show w.heap.size ≤ w.heap.size + 2 by omega)))
            have HO5 := Lib.hid ((owned_nums hs5).mono (show w.heap.size ≤ w4.heap.size by omega))
            have HO6 := Lib.hid (OwnNums.keep (N0 := w.heap.size) HO4.out (by omega) (fun g _ hg => hb5.block g hg))
            have s0 := (cell_of hr5 0).trans rfl
            have s1 := (cell_of hr5 1).trans rfl
            have s2 := (cell_of hr5 2).trans rfl
            have s3 := free_of hr5 0
            have s4 := free_of hr5 1
            have s5 := free_of hr5 2
            obtain ⟨te, tc, rfl⟩ : ∃ te tc, v5 = .slice te T.length tc := by
              rcases hs5.2 with ⟨e, h0⟩ | ⟨g, cap, _, e, _⟩
              · exact ⟨none, 0, by rw [e, h0]⟩
              · exact ⟨_, cap, e⟩
            clear hs5 hb5 hb5' hr5 c0 c1 c2 c3
            go_wp2_with fail
            all_goals (try simp only [Exit.inBlock, Exit.then])
            all_goals (rw [HXX.out, ← HC.out])
            all_goals (show bodyPost Tryd.prog Tryd.f13 (DoneR w.heap.size _ w) _ _ _)
            all_goals (exact fin_op (fn := Tryd.f13) (u := 6) (p := 7) (v := .slice te T.length tc) rfl rfl rfl rfl (show w.heap.size ≤ w.heap.size + 1 by omega) HB5.out HR5.out HO5.out _ (.inl rfl))
          · have q2 : (k == 2) = false := by rw [beq_eq_false_iff_ne]; exact hk2
            by_cases hk3 : k = 3
            · subst hk3
              have HXX := Lib.hid (show doF 5 l 3 a b = (R.filter (· ≠ a), decide (a ∈ R), 0) from HX.out)
              have H4 := Lib.hid (without_walk (.slice ro R.length rc) R a w4 HO4.out.nums hrl)
              skip
              generalize hT : R.filter (· ≠ a) = T at *
              have hTl : T.length ≤ 4000001 := by split at hfl <;> omega
              have hcmp : decide (T.length < R.length) = decide (a ∈ R) := by
                by_cases ha : a ∈ R
                · rw [if_pos ha] at hfl; simp [ha]; omega
                · rw [if_neg ha] at hfl; simp [ha]; omega
              have HC := Lib.hid hcmp
              clear hcmp hpl hfl
              go_wp2_with fail
              refine H4.out.mono ?_
              rintro e w5 ⟨v5, rfl, hs5, hb5⟩
              have hb5' : Below (w.heap.size + 2) w4 w5 := hb5.mono hsz4
              have hr5 := (hb5'.block (w.heap.size + 1) (by omega)).trans HRS4.out
              have HR5 := Lib.hid hr5
              have HB5 := Lib.hid (HB4.out.trans (hb5'.mono (show w.heap.size ≤ w.heap.size + 2 by omega)))
              have HO5 := Lib.hid ((owned_nums hs5).mono (show w.heap.size ≤ w4.heap.size by omega))
              have HO6 := Lib.hid (OwnNums.keep (N0 := w.heap.size) HO4.out (by omega) (fun g _ hg => hb5.block g hg))
              have s0 := (cell_of hr5 0).trans rfl
              have s1 := (cell_of hr5 1).trans rfl
              have s2 := (cell_of hr5 2).trans rfl
              have s3 := free_of hr5 0
              have s4 := free_of hr5 1
              have s5 := free_of hr5 2
              obtain ⟨te, tc, rfl⟩ : ∃ te tc, v5 = .slice te T.length tc := by
                rcases hs5.2 with ⟨e, h0⟩ | ⟨g, cap, _, e, _⟩
                · exact ⟨none, 0, by rw [e, h0]⟩
                · exact ⟨_, cap, e⟩
              clear hs5 hb5 hb5' hr5 c0 c1 c2 c3
              go_wp2_with fail
              all_goals (try simp only [Exit.inBlock, Exit.then])
              all_goals (rw [HXX.out, ← HC.out])
              all_goals (show bodyPost Tryd.prog Tryd.f13 (DoneR w.heap.size _ w) _ _ _)
              all_goals (exact fin_op (fn := Tryd.f13) (u := 6) (p := 7) (v := .slice te T.length tc) rfl rfl rfl rfl (show w.heap.size ≤ w.heap.size + 1 by omega) HB5.out HR5.out HO5.out _ (.inl rfl))
            · have q3 : (k == 3) = false := by rw [beq_eq_false_iff_ne]; exact hk3
              have HXX := Lib.hid (show doF 5 l k a b = (R, false, 0) from by rw [HX.out]; unfold setRF; rw [if_neg hk1, if_neg hk2, if_neg hk3])
              have s0 := (cell_of HRS4.out 0).trans rfl
              have s1 := (cell_of HRS4.out 1).trans rfl
              have s2 := (cell_of HRS4.out 2).trans rfl
              have s3 := free_of HRS4.out 0
              have s4 := free_of HRS4.out 1
              have s5 := free_of HRS4.out 2
              have HO5 := Lib.hid (HO4.out.mono (show w.heap.size ≤ w3.heap.size by omega))
              go_wp2_with fail
              all_goals (try simp only [Exit.inBlock, Exit.then])
              all_goals (rw [HXX.out])
              all_goals (show bodyPost Tryd.prog Tryd.f13 (DoneR w.heap.size _ w) _ _ _)
              all_goals (exact fin_op (fn := Tryd.f13) (u := 6) (p := 7) (v := .slice ro R.length rc) rfl rfl rfl rfl (show w.heap.size ≤ w.heap.size + 1 by omega) HB4.out HRS4.out HO5.out _ (.inl rfl))
      · have e5 : (o == 5) = false := by rw [beq_eq_false_iff_ne]; exact ho5
        have HX := Lib.hid (show doF o l k a b = (l, false, 0) from by rw [hid_eq HF, if_neg ho12, if_neg ho34, if_neg ho5])
        have HO4 := Lib.hid ((owned_nums HS.out).mono (show w.heap.size ≤ w.heap.size + 2 by omega))
        have s0 := (cell_of hrs3 0).trans rfl
        have s1 := (cell_of hrs3 1).trans rfl
        have s2 := (cell_of hrs3 2).trans rfl
        have s3 := free_of hrs3 0
        have s4 := free_of hrs3 1
        have s5 := free_of hrs3 2
        clear HF hop3 hrs3
        go_wp2_with (at_builtin; go_must (refine Lib.wpList_append_run _ rfl _ _ _ _ rfl _ _ rfl rfl _ _ HAP.out ?_))
        all_goals (try simp only [Exit.inBlock, Exit.then])
        rw [HX.out]
        show bodyPost Tryd.prog Tryd.f13 (DoneR w.heap.size (l, false, 0) w) _ _ _
        exact fin_op (fn := Tryd.f13) (u := 6) (p := 7) (v := s) rfl rfl rfl rfl (show w.heap.size ≤ w.heap.size + 1 by omega) HB3.out HRS3.out HO4.out _ (.inl rfl)
end Go.Proofs.YtfcaebceklhbkaaDoor

/-
  The contracts of SameNumbers, SameInts and SameAnswers at lists that are the same.
-/
namespace Go.Proofs.YtfcaebceklhbkaaDoor
open Go.RowKit
set_option linter.unusedVariables false

theorem nums_cell {w : World} {ao : Option Addr} {n c i : Nat} {l : List Int} (h : Nums w (.slice ao n c) l) (hi : i < n) : l.length = n ∧ ∃ g o, ao = some ⟨g, o, none⟩ ∧ w.cell? ⟨g, o + i, none⟩ = some (.int .i64 (l.getD i 0)) := by
  obtain ⟨ao', c', e, h⟩ := h
  cases e
  refine ⟨rfl, ?_⟩
  rcases h with rfl | ⟨g, o, e, hc⟩
  · simp at hi
  · exact ⟨g, o, e, hc i hi⟩
theorem nums_len {w : World} {v : Value} {l : List Int} (h : Nums w v l) : ∃ ao c, v = .slice ao l.length c := by
  obtain ⟨ao, c, e, _⟩ := h
  exact ⟨ao, c, e⟩

set_option maxRecDepth 100000 in
set_option maxHeartbeats 4000000 in
theorem sameNums_walk (a b : Value) (l : List Int) (w : World) (ha : Nums w a l) (hb : Nums w b l) (hl : l.length ≤ 4000001) :
    Calls Tryd.prog 14 #[a, b] w fun e w' => e = .returned (.bool true) ∧ Below w.heap.size w w' := by
  obtain ⟨ao, ac, rfl⟩ := nums_len ha
  obtain ⟨bo, bc, rfl⟩ := nums_len hb
  have HA := Lib.hid ha
  have HB := Lib.hid hb
  clear ha hb
  generalize hn : l.length = n at *
  clear hn
  go_enter Tryd.func14, Tryd.ntmps14
  go_wp2_with fail
  go_loopw [5] (fun jv wr => ∃ j : Nat, j ≤ n ∧ jv = .int .i64 j ∧ Below w.heap.size w wr) (fun jv _ => n - (intOf jv).toNat)
  case atStart => exact ⟨0, by omega, rfl, Below.refl _ _⟩
  case round =>
    obtain ⟨j, hj, rfl, hlow⟩ := hrel
    have HL := Lib.hid hlow
    by_cases hlt : j < n
    · obtain ⟨_, ga, oa, rfl, hca⟩ := nums_cell HA.out hlt
      obtain ⟨_, gb, ob, rfl, hcb⟩ := nums_cell HB.out hlt
      have h1 := (hlow.cell (p := ⟨ga, oa + j, none⟩) (World.block_lt_of_cell? w _ hca)).trans hca
      have h2 := (hlow.cell (p := ⟨gb, ob + j, none⟩) (World.block_lt_of_cell? w _ hcb)).trans hcb
      clear hlow hca hcb
      generalize l.getD j 0 = x at *
      go_wp2_with (go_quiet (fail))
      go_roundw
      case rel => exact ⟨j + 1, by omega, by go_num, below_drewN HL.out _⟩
      case measure => simp [intOf]; omega
    · obtain rfl : j = n := by omega
      clear hlow
      go_wp2_with fail
      go_ret
      exact ⟨rfl, HL.out⟩
set_option maxRecDepth 100000 in
set_option maxHeartbeats 4000000 in
theorem sameInts_walk (a b : Value) (l : List Int) (w : World) (ha : Nums w a l) (hb : Nums w b l) (hl : l.length ≤ 4000001) :
    Calls Tryd.prog 19 #[a, b] w fun e w' => e = .returned (.bool true) ∧ Below w.heap.size w w' := by
  obtain ⟨ao, ac, rfl⟩ := nums_len ha
  obtain ⟨bo, bc, rfl⟩ := nums_len hb
  have HA := Lib.hid ha
  have HB := Lib.hid hb
  clear ha hb
  generalize hn : l.length = n at *
  clear hn
  go_enter Tryd.func19, Tryd.ntmps19
  go_wp2_with fail
  go_loopw [5] (fun jv wr => ∃ j : Nat, j ≤ n ∧ jv = .int .i64 j ∧ Below w.heap.size w wr) (fun jv _ => n - (intOf jv).toNat)
  case atStart => exact ⟨0, by omega, rfl, Below.refl _ _⟩
  case round =>
    obtain ⟨j, hj, rfl, hlow⟩ := hrel
    have HL := Lib.hid hlow
    by_cases hlt : j < n
    · obtain ⟨_, ga, oa, rfl, hca⟩ := nums_cell HA.out hlt
      obtain ⟨_, gb, ob, rfl, hcb⟩ := nums_cell HB.out hlt
      have h1 := (hlow.cell (p := ⟨ga, oa + j, none⟩) (World.block_lt_of_cell? w _ hca)).trans hca
      have h2 := (hlow.cell (p := ⟨gb, ob + j, none⟩) (World.block_lt_of_cell? w _ hcb)).trans hcb
      clear hlow hca hcb
      generalize l.getD j 0 = x at *
      go_wp2_with (go_quiet (fail))
      go_roundw
      case rel => exact ⟨j + 1, by omega, by go_num, below_drewN HL.out _⟩
      case measure => simp [intOf]; omega
    · obtain rfl : j = n := by omega
      clear hlow
      go_wp2_with fail
      go_ret
      exact ⟨rfl, HL.out⟩
set_option maxRecDepth 100000 in
set_option maxHeartbeats 4000000 in
theorem sameNums_nil (w : World) : Calls Tryd.prog 14 #[.slice none 0 0, .slice none 0 0] w fun e w' => e = .returned (.bool true) ∧ w' = w := by
  go_enter Tryd.func14, Tryd.ntmps14
  go_wp2_with fail
  go_loopw [5] (fun jv wr => jv = .int .i64 0 ∧ wr = w) (fun jv _ => 0)
  case atStart => exact ⟨rfl, rfl⟩
  case round =>
    obtain ⟨rfl, rfl⟩ := hrel
    go_wp2_with fail
    go_ret
    exact ⟨rfl, rfl⟩
set_option maxRecDepth 100000 in
set_option maxHeartbeats 4000000 in
theorem sameAns_walk (ga gb : Nat) (ok : Bool) (n : Int) (w : World) (ha : w.heap[ga]? = some (.cells #[.bool ok, .int .i64 n, .slice none 0 0] 26 (0, 0))) (hb : w.heap[gb]? = some (.cells #[.bool ok, .int .i64 n, .slice none 0 0] 26 (0, 0))) :
    Calls Tryd.prog 15 #[.slice (some ⟨ga, 0, none⟩) 1 1, .slice (some ⟨gb, 0, none⟩) 1 1] w fun e w' => e = .returned (.bool true) ∧ Below w.heap.size w w' := by
  have HA := Lib.hid ha
  have HB := Lib.hid hb
  clear ha hb
  have H14 := Lib.hid sameNums_nil
  go_enter Tryd.func15, Tryd.ntmps15
  go_wp2_with fail
  go_loopw [5] (fun jv wr => ∃ j : Nat, j ≤ 1 ∧ jv = .int .i64 j ∧ Below w.heap.size w wr) (fun jv _ => 1 - (intOf jv).toNat)
  case atStart => exact ⟨0, by omega, rfl, Below.refl _ _⟩
  case round =>
    obtain ⟨j, hj, rfl, hlow⟩ := hrel
    have HL := Lib.hid hlow
    by_cases hlt : j < 1
    · obtain rfl : j = 0 := by omega
      have ra := (hlow.block ga (Array.getElem?_eq_some_iff.1 HA.out).1).trans HA.out
      have rb := (hlow.block gb (Array.getElem?_eq_some_iff.1 HB.out).1).trans HB.out
      have a0 := (cell_of ra 0).trans rfl
      have a1 := (cell_of ra 1).trans rfl
      have a2 := (cell_of ra 2).trans rfl
      have b0 := (cell_of rb 0).trans rfl
      have b1 := (cell_of rb 1).trans rfl
      have b2 := (cell_of rb 2).trans rfl
      clear hlow ra rb
      go_wp2_with (go_quiet (first | (go_at_call 14; exact Calls.quiet_of_same (H14.out _))))
      go_roundw
      case rel => exact ⟨1, by omega, by go_num, below_drewN HL.out _⟩
      case measure => simp [intOf]
    · obtain rfl : j = 1 := by omega
      clear hlow
      go_wp2_with fail
      go_ret
      exact ⟨rfl, HL.out⟩
end Go.Proofs.YtfcaebceklhbkaaDoor

/-
  The law JudgeDoes (f3): the walk.
-/
namespace Go.Proofs.YtfcaebceklhbkaaDoor
open Go.RowKit
set_option linter.unusedVariables false

/-- A slice of operations, as it reads. -/
def OpRow (w : World) (ao : Option Addr) (n : Nat) : Prop :=
  n = 0 ∨ ∃ g o, ao = some ⟨g, o, none⟩ ∧ ∀ i, i < n → ∃ k a b c : Int, w.cell? ⟨g, o + i * 4, none⟩ = some (.int .i64 k) ∧ w.cell? ⟨g, o + i * 4 + 1, none⟩ = some (.int .i64 a) ∧ w.cell? ⟨g, o + i * 4 + 2, none⟩ = some (.int .i64 b) ∧ w.cell? ⟨g, o + i * 4 + 3, none⟩ = some (.int .i64 c)
theorem OpRow.below {w w' : World} {ao : Option Addr} {n : Nat} (h : OpRow w ao n) (hb : Below w.heap.size w w') : OpRow w' ao n := by
  rcases h with h | ⟨g, o, e, h⟩
  · exact .inl h
  · refine .inr ⟨g, o, e, fun i hi => ?_⟩
    obtain ⟨k, a, b, c, h0, h1, h2, h3⟩ := h i hi
    have m : ∀ {x : Nat} {v : Value}, w.cell? ⟨g, x, none⟩ = some v → w'.cell? ⟨g, x, none⟩ = some v := fun hx => (hb.cell (p := ⟨g, _, none⟩) (World.block_lt_of_cell? w _ hx)).trans hx
    exact ⟨k, a, b, c, m h0, m h1, m h2, m h3⟩

/-- append(append([]int64{}, state...), 77): the row, and a part of it. -/
structure Mark (N : Nat) (w' : World) (l : List Int) (z : Int) (s : Value) : Prop where
  at_ : ∃ g cap, s = .slice (some ⟨g, 0, none⟩) (l.length + 1) cap ∧ l.length + 1 ≤ cap ∧ N ≤ g ∧ g < w'.heap.size ∧ w'.cell? ⟨g, l.length, none⟩ = some (.int .i64 z) ∧ ∀ i, i < l.length → w'.cell? ⟨g, i, none⟩ = some (.int .i64 (l.getD i 0))
theorem mark_of {N : Nat} {w w' : World} {l : List Int} {z : Int} {s s0 : Value} (h : Appended w N 2 1 s0 l.length 1 (numV l ++ [.int .i64 z]) s w') : Mark N w' l z s := by
  obtain ⟨h1, h2, h3⟩ := h
  rcases h3 with ⟨_, _, h0, _⟩ | ⟨g, cap, rfl, hc, _⟩
  · cases h0
  · have hcell := fun i u => h1.cells (g := g) rfl i u
    have hlt := h1.lt g rfl
    refine ⟨g, cap, rfl, hc, hlt.1, hlt.2, ?_, fun i hi => ?_⟩
    · have := hcell l.length (.int .i64 z) (by simp [numV])
      rw [addr_add] at this
      simpa using this
    · have := hcell i (.int .i64 (l.getD i 0)) (by simp [numV, List.getElem?_append_left, hi, List.getD])
      rw [addr_add] at this
      simpa using this
theorem SrcOf.below {w w' : World} {k m : Nat} {x : Value} {news : List Value} (h : SrcOf w k x m news) (hb : Below w.heap.size w w') : SrcOf w' k x m news := by
  obtain ⟨h1, h2, h3⟩ := h
  refine ⟨h1, h2, ?_⟩
  rcases h3 with h | ⟨ad, c, e, h⟩
  · exact .inl h
  · exact .inr ⟨ad, c, e, fun j u hu => (hb.cell (World.block_lt_of_cell? w _ (h j u hu))).trans (h j u hu)⟩

set_option maxRecDepth 100000 in
set_option maxHeartbeats 8000000 in
theorem does_walk (o : Int) (v : Value) (l : List Int) (io : Option Addr) (n ic : Nat) (w : World) (hv : Nums w v l) (hs : SrcOf w 1 v l.length (numV l)) (hl : l.length ≤ 1500000) (hop : OpRow w io n) (hn : n ≤ 1500000)
    (hfix : Calls Tryd.prog 11 #[] w fun e w' => e = .returned (.bool true) ∧ Below w.heap.size w w') :
    Calls Tryd.prog 3 #[.int .i64 o, v, .slice io n ic] w fun e w' => e = .returned (.bool true) ∧ Below w.heap.size w w' := by
  obtain ⟨i0, hi0, hz0, hz1, hz2⟩ := info_parts info2
  have HFX := Lib.hid hfix
  have HV := Lib.hid hv
  have HSV := Lib.hid hs
  have HO := Lib.hid hop
  obtain ⟨vo, vc, rfl⟩ := nums_len hv
  have HDo := Lib.hid (doOk_all o)
  clear hfix hv hop hs
  generalize hN : w.heap.size = N at *
  have HN := Lib.hid hN
  generalize hll : l.length = ln at *
  have HLL := Lib.hid hll
  clear hN hll
  go_enter Tryd.func3, Tryd.ntmps3
  go_wp2_with fail
  refine HFX.out.mono ?_
  rintro e w1 ⟨rfl, hb1⟩
  have hs1 : N ≤ w1.heap.size := by have := hb1.size; have := HN.out; omega
  have HB1 := Lib.hid hb1
  have HSX := Lib.hid ((HSV.out.below (by rw [HN.out]; exact hb1)).below ((Below.refl _ _).alloc (Nat.le_refl _) (.cells #[] 2)))
  have HOW : Hid ((w1.alloc (.cells #[] 2)).ownsRow w1.heap.size 2 1 (.slice (some ⟨w1.heap.size, 0, none⟩) 0 0) 0 []) := ⟨rfl, .inr ⟨w1.heap.size, 0, #[], rfl, Nat.le_refl _, heap_alloc_new w1 _, Nat.le_refl _, by decide, rfl, rfl⟩⟩
  clear hb1
  go_wp2_with (first
    | (at_builtin; refine wpList_append_row rfl (.tmp 17) (.tmp 18) 22 rfl w1.heap.size 2 i0 _ 1 8 Tryd.underlying22 hi0 hz0 hz1 (by decide) hz2 rfl (.slice (some ⟨w1.heap.size, 0, none⟩) 0 0) 0 [] rfl HOW.out ln (numV l) HSX.out ?l2 ?b2 ?n2 ?_; go_must (case l2 => (unfold maxLen; omega)); go_must (case b2 => omega); go_must (case n2 => (simp)); intro v2 w2 ha; have HA2 := Lib.hid ha; have HOW2 := Lib.hid (World.ownsRow.alloc (ha.1) (.cells #[.int .i64 77] 2)); have HS2 := Lib.hid (src_one0 w2 #[.int .i64 77] 2 1 rfl (by intro u hu; simp at hu; subst hu; rfl)); clear ha)
    | (at_builtin; go_must (refine wpList_append_row rfl (.tmp 19) (.tmp 20) 22 rfl w1.heap.size 2 i0 _ 1 8 Tryd.underlying22 hi0 hz0 hz1 (by decide) hz2 rfl v2 (0 + ln) ([] ++ numV l) rfl HOW2.out 1 [.int .i64 77] HS2.out ?l2 ?b2 ?n2 ?_); go_must (case l2 => (unfold maxLen; omega)); go_must (case b2 => omega); go_must (case n2 => (have := HA2.out.2.1.size; simp at this; simp; omega)); intro v3 w3 ha; have HA3 := Lib.hid ha; obtain ⟨⟨g, cap, hv3, hc3, hg3, hgs3, hz3, hx3⟩⟩ := mark_of (l := l) (z := 77) (s0 := v2) (by simpa [HLL.out] using ha); rw [HLL.out] at hv3 hc3 hz3 hx3; subst hv3; have HX3 := Lib.hid hx3; clear ha hx3))
  have hw3 : Hid (Below N w w3) := by
    obtain ⟨h1, h2, _⟩ := HA2.out
    have hs2 := h2.size
    simp at hs2
    refine Lib.hid (Below.grown ((Below.grown ((HB1.out).alloc hs1 (.cells #[] 2)) h2 (by simp; omega) (fun k hk => ?_)).alloc (by omega) (.cells #[.int .i64 77] 2)) HA3.out.2.1 (by simp; omega) (fun k hk => ?_))
    · cases hk; exact hs1
    · exact Nat.le_trans hs1 (h1.lt k hk).1
  have hsw3 : N ≤ w3.heap.size := by omega
  have HV3 : Hid (Nums w3 (.slice vo ln vc) l) := Lib.hid (HV.out.below (by rw [HN.out]; exact hw3.out))
  have HA : Hid (Nums w3 (.slice (some ⟨g, 0, none⟩) ln cap) l) := Lib.hid ⟨some ⟨g, 0, none⟩, cap, by rw [HLL.out], .inr ⟨g, 0, rfl, fun i hi => by rw [Nat.zero_add]; exact HX3.out i (by rw [← HLL.out]; exact hi)⟩⟩
  have HO3 : Hid (OpRow w3 io n) := Lib.hid (HO.out.below (by rw [HN.out]; exact hw3.out))
  have HZ3 := Lib.hid hz3
  clear HA2 HA3 HOW2 HS2 HOW HSX hz3
  go_wp2_with fail
  go_loopw [8, 9, 10] (fun av bv iv wr => ∃ i : Nat, i ≤ n ∧ iv = .int .i64 i ∧ (∃ st : List Int, st.length ≤ ln + i ∧ Nums wr av st ∧ Nums wr bv st) ∧ Below w3.heap.size w3 wr) (fun _ _ iv _ => n - (intOf iv).toNat)
  case atStart => exact ⟨0, by omega, rfl, ⟨l, by rw [HLL.out]; omega, HA.out, HV3.out⟩, Below.refl _ _⟩
  case round =>
    obtain ⟨i, hi, rfl, ⟨st, hst, hna, hnb⟩, hlow⟩ := hrel
    have HNA := Lib.hid hna
    have HNB := Lib.hid hnb
    have HL := Lib.hid hlow
    clear hna hnb hlow
    by_cases hlt : i < n
    · obtain ⟨og, oo, rfl, hcc⟩ : ∃ og oo, io = some ⟨og, oo, none⟩ ∧ ∃ k a b c : Int, w3.cell? ⟨og, oo + i * 4, none⟩ = some (.int .i64 k) ∧ w3.cell? ⟨og, oo + i * 4 + 1, none⟩ = some (.int .i64 a) ∧ w3.cell? ⟨og, oo + i * 4 + 2, none⟩ = some (.int .i64 b) ∧ w3.cell? ⟨og, oo + i * 4 + 3, none⟩ = some (.int .i64 c) := by
        rcases HO3.out with h | ⟨og, oo, e, h⟩
        · omega
        · exact ⟨og, oo, e, h i hlt⟩
      obtain ⟨k, a, b, c, h0, h1, h2, h3⟩ := hcc
      have m : ∀ {W : World} {x : Nat} {v : Value}, Below w3.heap.size w3 W → w3.cell? ⟨og, x, none⟩ = some v → W.cell? ⟨og, x, none⟩ = some v := fun hb hx => (hb.cell (p := ⟨og, _, none⟩) (World.block_lt_of_cell? w3 _ hx)).trans hx
      have HM := Lib.hid (fun W (hb : Below w3.heap.size w3 W) => And.intro (m hb h0) (And.intro (m hb h1) (And.intro (m hb h2) (m hb h3))))
      obtain ⟨c0, c1, c2, c3⟩ := HM.out wr HL.out
      have HD1 := Lib.hid (HDo.out u8 st k a b c wr HNA.out (by omega))
      have HD2 := Lib.hid (fun W h => refDo_walk o u9 st k a b c W h (show st.length ≤ 4000000 by omega))
      have hxl := doF_length o st k a b
      clear m h0 h1 h2 h3
      unfold opV at HD1 HD2
      generalize doF o st k a b = x at *
      obtain ⟨xl, xo, xn⟩ := x
      simp only at hxl
      go_wp2_with fail
      refine HD1.out.mono ?_
      rintro e w4 ⟨v4, rfl, ho4, hb4⟩
      have HN4 := Lib.hid ho4.nums
      have HB4 := Lib.hid hb4
      have hsz4 : wr.heap.size ≤ w4.heap.size := hb4.size
      have hL4 : Below w3.heap.size w3 (w4.alloc (.cells #[.bool xo, .int .i64 xn, .slice none 0 0] 26)) := (HL.out.trans (hb4.mono HL.out.size)).alloc (Nat.le_trans HL.out.size hsz4) _
      obtain ⟨d0, d1, d2, d3⟩ := HM.out _ hL4
      have HL4 := Lib.hid hL4
      have HA4 : Hid ((w4.alloc (.cells #[.bool xo, .int .i64 xn, .slice none 0 0] 26)).heap[w4.heap.size]? = some (.cells #[.bool xo, .int .i64 xn, .slice none 0 0] 26 (0, 0))) := heap_alloc_new _ _
      have HX4 := Lib.hid (HN4.out.below ((Below.refl _ _).alloc (Nat.le_refl _) (.cells #[.bool xo, .int .i64 xn, .slice none 0 0] 26)))
      have HY4 := Lib.hid (HNB.out.below (hb4.alloc hsz4 (.cells #[.bool xo, .int .i64 xn, .slice none 0 0] 26)))
      unfold ansV at *
      simp only at *
      clear hb4 ho4 hL4 c0 c1 c2 c3
      go_wp2_with fail
      generalize w4.alloc (.cells #[.bool xo, .int .i64 xn, .slice none 0 0] 26) = w5 at *
      generalize w4.heap.size = p4 at *
      refine (HD2.out _ HY4.out).mono ?_
      rintro e w6 ⟨v6, rfl, ho6, hb6⟩
      have hsz6 : w5.heap.size ≤ w6.heap.size := hb6.size
      have hb6' := hb6.alloc hsz6 (.cells #[.bool xo, .int .i64 xn, .slice none 0 0] 26)
      have HL6 := Lib.hid (HL4.out.trans (hb6'.mono HL4.out.size))
      have HX6 := Lib.hid (HX4.out.below hb6')
      have HY6 := Lib.hid (ho6.nums.below ((Below.refl _ _).alloc (Nat.le_refl _) (.cells #[.bool xo, .int .i64 xn, .slice none 0 0] 26)))
      have HA6 := Lib.hid ((hb6'.block p4 (Array.getElem?_eq_some_iff.1 HA4.out).1).trans HA4.out)
      have HC6 : Hid ((w6.alloc (.cells #[.bool xo, .int .i64 xn, .slice none 0 0] 26)).heap[w6.heap.size]? = some (.cells #[.bool xo, .int .i64 xn, .slice none 0 0] 26 (0, 0))) := heap_alloc_new _ _
      clear hb6 hb6' ho6 d0 d1 d2 d3
      unfold ansV at *
      simp only at *
      go_wp2_with fail
      generalize w6.alloc (.cells #[.bool xo, .int .i64 xn, .slice none 0 0] 26) = w7 at *
      generalize w6.heap.size = p6 at *
      refine (sameNums_walk v4 v6 xl w7 HX6.out HY6.out (by omega)).mono ?_
      rintro e w8 ⟨rfl, hb8⟩
      have r4 := (hb8.block p4 (Array.getElem?_eq_some_iff.1 HA6.out).1).trans HA6.out
      have r6 := (hb8.block p6 (Array.getElem?_eq_some_iff.1 HC6.out).1).trans HC6.out
      have q6 : ∀ x, (w8.alloc x).heap[p6]? = some (.cells #[.bool xo, .int .i64 xn, .slice none 0 0] 26 (0, 0)) := fun x => (Below.heap_alloc _ _ _ (Array.getElem?_eq_some_iff.1 r6).1).trans r6
      have s0 := (cell_of r4 0).trans rfl
      have s1 := (cell_of r4 1).trans rfl
      have s2 := (cell_of r4 2).trans rfl
      have t0 : ∀ x, (w8.alloc x).cell? ⟨p6, 0, none⟩ = some (.bool xo) := fun x => (cell_of (q6 x) 0).trans rfl
      have t1 : ∀ x, (w8.alloc x).cell? ⟨p6, 1, none⟩ = some (.int .i64 xn) := fun x => (cell_of (q6 x) 1).trans rfl
      have t2 : ∀ x, (w8.alloc x).cell? ⟨p6, 2, none⟩ = some (.slice none 0 0) := fun x => (cell_of (q6 x) 2).trans rfl
      have HL8 := Lib.hid (HL6.out.trans (hb8.mono HL6.out.size))
      have HX8 := Lib.hid (HX6.out.below hb8)
      have HY8 := Lib.hid (HY6.out.below hb8)
      clear r4 r6 q6 hb8
      go_wp2_with fail
      have hsz8 := HL8.out.size
      have hb9 : Below w8.heap.size w8 ((w8.alloc (.cells #[.bool xo, .int .i64 xn, .slice none 0 0] 26)).alloc (.cells #[.bool xo, .int .i64 xn, .slice none 0 0] 26)) := below_two _ _ _
      have ha9 : ((w8.alloc (.cells #[.bool xo, .int .i64 xn, .slice none 0 0] 26)).alloc (.cells #[.bool xo, .int .i64 xn, .slice none 0 0] 26)).heap[w8.heap.size]? = some (.cells #[.bool xo, .int .i64 xn, .slice none 0 0] 26 (0, 0)) := (Below.heap_alloc _ _ _ (by simp)).trans (heap_alloc_new _ _)
      have hc9 : ((w8.alloc (.cells #[.bool xo, .int .i64 xn, .slice none 0 0] 26)).alloc (.cells #[.bool xo, .int .i64 xn, .slice none 0 0] 26)).heap[w8.heap.size + 1]? = some (.cells #[.bool xo, .int .i64 xn, .slice none 0 0] 26 (0, 0)) := by
        have := heap_alloc_new (w8.alloc (.cells #[.bool xo, .int .i64 xn, .slice none 0 0] 26)) (.cells #[.bool xo, .int .i64 xn, .slice none 0 0] 26)
        simpa using this
      refine (sameAns_walk w8.heap.size (w8.heap.size + 1) xo xn _ ha9 hc9).mono ?_
      rintro e wa ⟨rfl, hba⟩
      have hb := hb9.trans (hba.mono hb9.size)
      have HLA := Lib.hid (HL8.out.trans (hb.mono HL8.out.size))
      have HXA := Lib.hid (HX8.out.below hb)
      have HYA := Lib.hid (HY8.out.below hb)
      clear hb9 ha9 hc9 hba hb
      go_wp2_with fail
      go_roundw
      case rel => exact ⟨i + 1, by omega, by go_num, ⟨xl, by omega, HXA.out, HYA.out⟩, HLA.out⟩
      case measure => simp [intOf]; omega
    · obtain rfl : i = n := by omega
      have hz := (HL.out.cell (p := ⟨g, ln, none⟩) hgs3).trans HZ3.out
      have HA4 := Lib.hid (HA.out.below HL.out)
      have HV4 := Lib.hid (HV3.out.below HL.out)
      go_wp2_with fail
      refine (sameNums_walk _ _ l wr HA4.out HV4.out (by rw [HLL.out]; omega)).mono ?_
      rintro e w4 ⟨rfl, hb4⟩
      have HB4 := Lib.hid hb4
      clear hb4
      go_wp2_with fail
      go_ret
      refine ⟨rfl, ?_⟩
      exact hw3.out.trans ((HL.out.mono hsw3).trans (HB4.out.mono (Nat.le_trans hsw3 HL.out.size)))
end Go.Proofs.YtfcaebceklhbkaaDoor
