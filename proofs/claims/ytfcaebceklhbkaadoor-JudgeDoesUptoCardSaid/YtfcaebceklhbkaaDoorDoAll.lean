/-
  The contract of judge.Do for every object.
-/
import Derived.Test.YtfcaebceklhbkaaDoorSetW
import Derived.Test.YtfcaebceklhbkaaDoorOn
import Derived.Deep.RegionHeld3
import Derived.Deep.DeepCutAuto
namespace Go.Proofs.YtfcaebceklhbkaaDoor
open Go.RowKit
set_option linter.unusedVariables false

theorem OwnNums.mono {N N0 : Nat} {w : World} {v : Value} {l : List Int} (h : OwnNums N w v l) (hN : N0 ≤ N) : OwnNums N0 w v l := by
  rcases h with h | ⟨g, p, c, cur, e, hg, h⟩
  · exact .inl h
  · exact .inr ⟨g, p, c, cur, e, by omega, h⟩

set_option maxRecDepth 100000 in
set_option maxHeartbeats 8000000 in
theorem doRest_walk (o : Int) (ho1 : o ≠ 1) (ho2 : o ≠ 2) (v : Value) (l : List Int) (k a b c : Int) (w : World) (h : Nums w v l) (hl : l.length ≤ 4000000) :
    Calls Tryd.prog 12 #[.int .i64 o, v, opV k a b c] w (DoneD (doF o l k a b) w) := by
  have HB2 : Hid (Below w.heap.size w ((w.alloc (.cells #[.int .i64 k, .int .i64 a, .int .i64 b, .int .i64 c] 31)).alloc (.cells #[.bool false, .int .i64 0, .slice none 0 0] 26))) := below_two _ _ _
  have HNU := Lib.hid (h.below HB2.out)
  have hw2 : ((w.alloc (.cells #[.int .i64 k, .int .i64 a, .int .i64 b, .int .i64 c] 31)).alloc (.cells #[.bool false, .int .i64 0, .slice none 0 0] 26)).heap.size = w.heap.size + 2 := by simp
  have hop : ((w.alloc (.cells #[.int .i64 k, .int .i64 a, .int .i64 b, .int .i64 c] 31)).alloc (.cells #[.bool false, .int .i64 0, .slice none 0 0] 26)).heap[w.heap.size]? = some (.cells #[.int .i64 k, .int .i64 a, .int .i64 b, .int .i64 c] 31 (0, 0)) := by
    rw [Below.heap_alloc _ _ _ (by simp)]
    exact heap_alloc_new w _
  have hrs : ((w.alloc (.cells #[.int .i64 k, .int .i64 a, .int .i64 b, .int .i64 c] 31)).alloc (.cells #[.bool false, .int .i64 0, .slice none 0 0] 26)).heap[w.heap.size + 1]? = some (.cells #[.bool false, .int .i64 0, .slice none 0 0] 26 (0, 0)) := by
    have := heap_alloc_new (w.alloc (.cells #[.int .i64 k, .int .i64 a, .int .i64 b, .int .i64 c] 31)) (.cells #[.bool false, .int .i64 0, .slice none 0 0] 26)
    simpa using this
  have HOP := Lib.hid hop
  have HRS := Lib.hid hrs
  have HW2 := Lib.hid hw2
  have e1 : (o == 1) = false := by rw [beq_eq_false_iff_ne]; exact ho1
  have e2 : (o == 2) = false := by rw [beq_eq_false_iff_ne]; exact ho2
  have HF : Hid (doF o l k a b = if o = 3 ∨ o = 4 then rowF o l k a else if o = 5 then setF l k a else (l, false, 0)) := by
    show doF o l k a b = _
    unfold doF
    rw [if_neg (by omega)]
  clear h hop hrs hw2
  unfold opV at *
  go_enter Tryd.func12, Tryd.ntmps12
  go_wp2_with fail
  generalize (w.alloc (.cells #[.int .i64 k, .int .i64 a, .int .i64 b, .int .i64 c] 31)).alloc (.cells #[.bool false, .int .i64 0, .slice none 0 0] 26) = w2 at *
  generalize hN : w.heap.size = N at *
  have HN := Lib.hid hN
  clear hN
  refine (clone_row v l w2 HNU.out hl).mono ?_
  rintro e w3 ⟨s, rfl, hs, hb3⟩
  have hsz : w2.heap.size ≤ w3.heap.size := hb3.size
  rw [HW2.out] at hs hb3 hsz
  have HS := Lib.hid hs
  have HB3 := Lib.hid (HB2.out.trans (hb3.mono (by omega)))
  have hop3 : w3.heap[N]? = some (.cells #[.int .i64 k, .int .i64 a, .int .i64 b, .int .i64 c] 31 (0, 0)) := (hb3.block N (by omega)).trans HOP.out
  have hrs3 : w3.heap[N + 1]? = some (.cells #[.bool false, .int .i64 0, .slice none 0 0] 26 (0, 0)) := (hb3.block (N + 1) (by omega)).trans HRS.out
  have HOP3 := Lib.hid hop3
  have HRS3 := Lib.hid hrs3
  clear hs hb3
  by_cases ho34 : o = 3 ∨ o = 4
  · have HX := Lib.hid (show doF o l k a b = rowF o l k a from by rw [hid_eq HF, if_pos ho34])
    have c0 := (cell_of hop3 0).trans rfl
    have c1 := (cell_of hop3 1).trans rfl
    have c2 := (cell_of hop3 2).trans rfl
    have c3 := (cell_of hop3 3).trans rfl
    have H38 : Hid (Calls Tryd.prog 38 #[.int .i64 o, s, .agg #[.int .i64 k, .int .i64 a, .int .i64 b, .int .i64 c]] w3 fun e w' => ∃ v', e = .returned (.tuple #[v', .agg #[.bool (rowF o l k a).2.1, .int .i64 (rowF o l k a).2.2, .slice none 0 0]]) ∧ OwnNums (N + 2) w' v' (rowF o l k a).1 ∧ Below (N + 2) w3 w') :=
      row_walk (N + 2) o ho34 s l k a b c w3 hsz HS.out hl
    generalize rowF o l k a = x at *
    obtain ⟨xl, xo, xn⟩ := x
    simp only at H38
    clear HF hop3 hrs3
    rcases ho34 with rfl | rfl
    all_goals
      go_wp2_with fail
      refine H38.out.mono ?_
      rintro e w4 ⟨v4, rfl, ho4, hb4⟩
      have HO4 := Lib.hid (ho4.mono (show N ≤ N + 2 by omega))
      have hr4 := (hb4.block (N + 1) (by omega)).trans HRS3.out
      have HR4 := Lib.hid hr4
      have HB4 := Lib.hid (HB3.out.trans (hb4.mono (show N ≤ N + 2 by omega)))
      have s0 := (cell_of hr4 0).trans rfl
      have s1 := (cell_of hr4 1).trans rfl
      have s2 := (cell_of hr4 2).trans rfl
      have s3 := free_of hr4 0
      have s4 := free_of hr4 1
      have s5 := free_of hr4 2
      clear ho4 hr4 hb4 c0 c1 c2 c3
      go_wp2_with fail
      all_goals (try simp only [Exit.inBlock, Exit.then])
      rw [HX.out]
      show bodyPost Tryd.prog Tryd.f12 (DoneR w.heap.size (xl, xo, xn) w) _ _ _
      rw [HN.out]
      exact fin_op (fn := Tryd.f12) (u := 6) (p := 7) (v := v4) rfl rfl rfl rfl (show N ≤ N + 1 by omega) HB4.out HR4.out HO4.out _ (.inl rfl)
  · have e3 : (o == 3) = false := by rw [beq_eq_false_iff_ne]; omega
    have e4 : (o == 4) = false := by rw [beq_eq_false_iff_ne]; omega
    by_cases ho5 : o = 5
    · subst ho5
      have HX := Lib.hid (show doF 5 l k a b = setRF (Lib.compact (sortF l)) k a from by rw [hid_eq HF, if_neg ho34, if_pos rfl, show Lib.compact (sortF l) = riseF l from compact_sort l]; rfl)
      have HRI : Hid (Rise (Lib.compact (sortF l))) := by
        have := compact_sort l
        rw [show Lib.compact (sortF l) = riseF l from this]
        exact riseF_rise l
      have hcl : (Lib.compact (sortF l)).length ≤ 4000000 := by
        have := riseF_length l
        rw [show Lib.compact (sortF l) = riseF l from compact_sort l]
        omega
      have hsl : (sortF l).length ≤ 4000000 := by rw [sortF_length]; exact hl
      obtain ⟨so, sc, rfl⟩ : ∃ so sc, s = .slice so l.length sc := by
        rcases HS.out.2 with ⟨e, h0⟩ | ⟨g, cap, _, e, _⟩
        · exact ⟨none, 0, by rw [e, h0]⟩
        · exact ⟨_, cap, e⟩
      have H41 : Hid (∀ W, W.ownsRow (N + 2) 2 1 (.slice so l.length sc) l.length (numV (sortF l)) → Calls Tryd.prog 41 #[.slice so l.length sc] W fun e w' =>
          e = .returned (.slice so (Lib.compact (sortF l)).length sc) ∧ w'.ownsRow (N + 2) 2 1 (.slice so (Lib.compact (sortF l)).length sc) (Lib.compact (sortF l)).length (numV (Lib.compact (sortF l))) ∧ Below (N + 2) W w') := fun W hW => by
        have := compact_row (N + 2) sc so (sortF l) W hsl (by rw [sortF_length]; exact hW)
        rwa [sortF_length] at this
      have H40 : Hid (∀ W, N + 2 ≤ W.heap.size → W.ownsRow (N + 2) 2 1 (.slice so (Lib.compact (sortF l)).length sc) (Lib.compact (sortF l)).length (numV (Lib.compact (sortF l))) →
          Calls Tryd.prog 40 #[.slice so (Lib.compact (sortF l)).length sc, .agg #[.int .i64 k, .int .i64 a, .int .i64 b, .int .i64 c]] W fun e w' => ∃ v', e = .returned (.tuple #[v', .agg #[.bool (setRF (Lib.compact (sortF l)) k a).2.1, .int .i64 (setRF (Lib.compact (sortF l)) k a).2.2, .slice none 0 0]]) ∧ OwnNums (N + 2) w' v' (setRF (Lib.compact (sortF l)) k a).1 ∧ Below (N + 2) W w') :=
        fun W hW hr => set_walk (N + 2) sc so (Lib.compact (sortF l)) k a b c W hW HRI.out hcl hr
      have HSO := Lib.hid (sort_row (N + 2) sc so l w3 hl HS.out)
      clear HF hop3 hrs3 HRI hcl hsl
      generalize setRF (Lib.compact (sortF l)) k a = x at *
      generalize Lib.compact (sortF l) = R at *
      generalize sortF l = SL at *
      obtain ⟨xl, xo, xn⟩ := x
      simp only at H40
      go_wp2_with fail
      refine HSO.out.mono ?_
      clear HSO
      rintro e w4 ⟨rfl, hs4, hb4⟩
      have HS4 := Lib.hid hs4
      have HB4 := Lib.hid hb4
      have hsz4 : N + 2 ≤ w4.heap.size := Nat.le_trans hsz hb4.size
      have hop4 := (hb4.block N (by omega)).trans HOP3.out
      have hrs4 := (hb4.block (N + 1) (by omega)).trans HRS3.out
      have HRS4 := Lib.hid hrs4
      have c0 := (cell_of hop4 0).trans rfl
      have c1 := (cell_of hop4 1).trans rfl
      have c2 := (cell_of hop4 2).trans rfl
      have c3 := (cell_of hop4 3).trans rfl
      have HOP4 := Lib.hid hop4
      clear hs4 hb4 hop4 hrs4
      go_wp2_with fail
      go_region_with (first
        | (go_at_call 41; refine (H41.out _ ?_).mono ?_; exact HS4.out; rintro e w6 ⟨rfl, hs6, hb6⟩; have HS6 := Lib.hid hs6; have HB6 : Hid (Below (N + 2) w4 w6) := (Below.refl _ _).drew.trans hb6; have hop6 := (hb6.block N (by omega)).trans HOP4.out; have d0 := (cell_of hop6 0).trans rfl; have d1 := (cell_of hop6 1).trans rfl; have d2 := (cell_of hop6 2).trans rfl; have d3 := (cell_of hop6 3).trans rfl; clear hs6 hb6 hop6)
        | (go_at_call 40; refine (H40.out _ ?_ HS6.out).mono ?_; exact Nat.le_trans hsz4 HB6.out.size; rintro e w7 ⟨v7, rfl, ho7, hb7⟩; have HO7 := Lib.hid (ho7.mono (show N ≤ N + 2 by omega)); have hr7 := (hb7.block (N + 1) (by omega)).trans ((HB6.out.block (N + 1) (by omega)).trans HRS4.out); have HR7 := Lib.hid hr7; have HB7 := Lib.hid (HB3.out.trans ((HB4.out.trans (HB6.out.trans hb7)).mono (show N ≤ N + 2 by omega))); have s0 := (cell_of hr7 0).trans rfl; have s1 := (cell_of hr7 1).trans rfl; have s2 := (cell_of hr7 2).trans rfl; have s3 := free_of hr7 0; have s4 := free_of hr7 1; have s5 := free_of hr7 2; clear ho7 hr7 hb7))
      all_goals (go_wp2_with fail)
      all_goals (try simp only [Exit.inBlock, Exit.then])
      all_goals (rw [HX.out])
      all_goals (show bodyPost Tryd.prog Tryd.f12 (DoneR w.heap.size (xl, xo, xn) w) _ _ _)
      all_goals (rw [HN.out])
      all_goals (exact fin_op (fn := Tryd.f12) (u := 6) (p := 7) (v := v7) rfl rfl rfl rfl (show N ≤ N + 1 by omega) HB7.out HR7.out HO7.out _ (.inl rfl))
    · have e5 : (o == 5) = false := by rw [beq_eq_false_iff_ne]; exact ho5
      have HX := Lib.hid (show doF o l k a b = (l, false, 0) from by rw [hid_eq HF, if_neg ho34, if_neg ho5])
      have HO4 := Lib.hid ((owned_nums HS.out).mono (show N ≤ N + 2 by omega))
      have s0 := (cell_of hrs3 0).trans rfl
      have s1 := (cell_of hrs3 1).trans rfl
      have s2 := (cell_of hrs3 2).trans rfl
      have s3 := free_of hrs3 0
      have s4 := free_of hrs3 1
      have s5 := free_of hrs3 2
      clear HF hop3 hrs3
      go_wp2_with fail
      all_goals (try simp only [Exit.inBlock, Exit.then])
      rw [HX.out]
      show bodyPost Tryd.prog Tryd.f12 (DoneR w.heap.size (l, false, 0) w) _ _ _
      rw [HN.out]
      exact fin_op (fn := Tryd.f12) (u := 6) (p := 7) (v := s) rfl rfl rfl rfl (show N ≤ N + 1 by omega) HB3.out HRS3.out HO4.out _ (.inl rfl)
end Go.Proofs.YtfcaebceklhbkaaDoor
