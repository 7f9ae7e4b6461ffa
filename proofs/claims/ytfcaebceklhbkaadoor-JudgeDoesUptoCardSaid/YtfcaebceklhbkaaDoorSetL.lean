/-
  The library's contracts for a row of the call's own: Sort, Compact, BinarySearch, Delete.
-/
import Derived.Test.YtfcaebceklhbkaaDoorRise
import Derived.Lib.OwnBridge
import Derived.Sort.OwnSortedInts
namespace Go.Proofs.YtfcaebceklhbkaaDoor
open Go.RowKit
set_option linter.unusedVariables false

theorem slice_ne {so : Option Addr} {n c : Nat} (h : n ≠ 0) : Value.slice so n c ≠ .slice none 0 0 := by
  intro e
  exact h (Value.slice.inj e).2.1
theorem len0 {l : List Int} (h : l.length = 0) : l = [] := List.eq_nil_of_length_eq_zero h

def sortF (l : List Int) : List Int := l.mergeSort fun x y => decide (x ≤ y)
theorem sortF_length (l : List Int) : (sortF l).length = l.length := List.length_mergeSort l

theorem sort_row (N sc : Nat) (so : Option Addr) (l : List Int) (w : World) (hl : l.length ≤ 4000000) (hs : w.ownsRow N 2 1 (.slice so l.length sc) l.length (numV l)) :
    Calls Tryd.prog 39 #[.slice so l.length sc] w fun e w' => e = .returned (.tuple #[]) ∧ w'.ownsRow N 2 1 (.slice so l.length sc) l.length (numV (sortF l)) ∧ Below N w w' := by
  by_cases h0 : l.length = 0
  · have := len0 h0
    subst this
    refine (AnyM.slices_Sort_int_none Tryd.lsort so sc w).mono ?_
    rintro e w' ⟨rfl, rfl⟩
    exact ⟨rfl, by simpa [sortF] using hs, Below.refl _ _⟩
  · obtain ⟨g, cap, e, hg, hlt, hn, hm, _, hH⟩ := Lib.holds_of_ownsRow (enc := Value.int .i64) (zs := l) hs (slice_ne h0)
    obtain ⟨rfl, _, rfl⟩ := Value.slice.inj e
    have h := AnyM.slices_Sort_int Tryd.lsort g 0 sc l w hH hlt (by omega)
    refine Calls.mono (show Calls Tryd.prog 39 _ _ _ from h) ?_
    rintro e' w' ⟨rfl, n, os, rfl⟩
    refine ⟨rfl, ?_, ?_⟩
    · rcases hs.2 with ⟨e2, _⟩ | ⟨g2, cap2, cur, e2, hb, hh, h1, h2, h3, _⟩
      · exact absurd e2 (slice_ne h0)
      · obtain ⟨e3, _, rfl⟩ := Value.slice.inj e2
        cases e3
        exact _root_.Go.ownsRow_sortedI (ts := sortF l) (ss := l) (sortF_length l) hb hh h1 h2 h3
    · exact (Below.refl _ _).grown (_root_.Go.grownBy_sortedI _) (by omega) (fun k hk => by rw [← Option.some.inj hk]; exact hg)

theorem compact_row (N sc : Nat) (so : Option Addr) (l : List Int) (w : World) (hl : l.length ≤ 4000000) (hs : w.ownsRow N 2 1 (.slice so l.length sc) l.length (numV l)) :
    Calls Tryd.prog 41 #[.slice so l.length sc] w fun e w' => e = .returned (.slice so (Lib.compact l).length sc) ∧ w'.ownsRow N 2 1 (.slice so (Lib.compact l).length sc) (Lib.compact l).length (numV (Lib.compact l)) ∧ Below N w w' := by
  by_cases h0 : l.length = 0
  · have := len0 h0
    subst this
    refine Calls.mono (show Calls Tryd.prog 41 _ _ _ from AnyG.slices_Compact_int_empty Tryd.lcompact so sc w) ?_
    rintro e w' ⟨rfl, rfl⟩
    exact ⟨rfl, hs, Below.refl _ _⟩
  · obtain ⟨g, cap, e, hg, hlt, hn, hm, _, hH⟩ := Lib.holds_of_ownsRow (enc := Value.int .i64) (zs := l) hs (slice_ne h0)
    obtain ⟨rfl, _, rfl⟩ := Value.slice.inj e
    have h := AnyG.slices_Compact_int Tryd.lcompact g 0 sc l w hH (by omega) hn
    refine Calls.mono (show Calls Tryd.prog 41 _ _ _ from h) ?_
    rintro e' w' ⟨rfl, q, rfl⟩
    have hle : (Lib.compact l).length ≤ l.length := by
      unfold Lib.compact Lib.compactUpTo
      rw [List.length_map]
      exact Nat.le_trans (List.length_filter_le _ _) (by simp)
    refine ⟨rfl, ?_, Lib.below_putRow (Below.refl _ _) hg⟩
    have h2 := Lib.ownsRow_putRow (enc := Value.int .i64) (q := q) (zs := l) (ys := Lib.compact l ++ List.replicate (l.length - (Lib.compact l).length) 0) (k := (Lib.compact l).length) hs (by simp; omega) hle
    rw [List.take_left] at h2
    exact h2

theorem delete_row (N sc i : Nat) (so : Option Addr) (l : List Int) (w : World) (hl : l.length ≤ 4000000) (hi : i < l.length) (hs : w.ownsRow N 2 1 (.slice so l.length sc) l.length (numV l)) :
    Calls Tryd.prog 59 #[.slice so l.length sc, .int .i64 i, .int .i64 ((i : Int) + 1)] w fun e w' => ∃ v', e = .returned v' ∧ OwnNums N w' v' (l.take i ++ l.drop (i + 1)) ∧ Below N w w' ∧ w.grownBy w' (Value.slice so l.length sc).ownBlock := by
  have h0 : l.length ≠ 0 := by omega
  obtain ⟨g, cap, e, hg, hlt, hn, hm, _, hH⟩ := Lib.holds_of_ownsRow (enc := Value.int .i64) (zs := l) hs (slice_ne h0)
  obtain ⟨rfl, _, rfl⟩ := Value.slice.inj e
  have h := AnyG.slices_Delete_int Tryd.ldelete g 0 sc i (i + 1) l w hH hn (by unfold maxLen at hm; omega) (by omega) (by omega)
  have h' : Calls Tryd.prog 59 #[.slice (some ⟨g, 0, none⟩) l.length sc, .int .i64 i, .int .i64 ((i : Int) + 1)] w _ := h
  refine h'.mono ?_
  rintro e' w' ⟨rfl, q, rfl⟩
  have hlen : (l.take i ++ l.drop (i + 1)).length = l.length - 1 := by simp; omega
  have h2 := Lib.ownsRow_putRow (enc := Value.int .i64) (q := q) (zs := l) (ys := l.take i ++ l.drop (i + 1) ++ List.replicate (i + 1 - i) 0) (k := l.length - 1) hs (by simp; omega) (by omega)
  rw [← hlen, List.take_left] at h2
  refine ⟨_, rfl, ?_, Lib.below_putRow (Below.refl _ _) hg, ?_⟩
  rotate_left
  · have hgr := grownBy_sortedI (w := w) (g := g) (n := q) (os := #[]) (l.take i ++ l.drop (i + 1) ++ List.replicate (i + 1 - i) 0).toArray
    rw [Sort.grow_empty] at hgr
    exact hgr
  rw [show l.length - (i + 1 - i) = (l.take i ++ l.drop (i + 1)).length by rw [hlen]; omega]
  exact owned_nums h2

set_option maxRecDepth 100000 in
set_option maxHeartbeats 4000000 in
theorem search_nil (a : Int) (w : World) : Calls Tryd.prog 57 #[.slice none 0 0, .int .i64 a] w fun e w' => e = .returned (.tuple #[.int .i64 0, .bool false]) ∧ ∃ q, w' = w.drewN q := by
  go_enter Tryd.func57, Tryd.ntmps57
  go_wp2_with fail
  go_loopw [7, 8] (fun iv jv wr => iv = .int .i64 0 ∧ jv = .int .i64 0 ∧ wr = w) (fun _ _ _ => 0)
  case atStart => exact ⟨rfl, rfl, by first | rfl | trivial⟩
  case round =>
    obtain ⟨rfl, rfl, rfl⟩ := hrel
    go_wp2_with (go_quiet (fail))
    go_ret2
    exact ⟨rfl, 0, rfl⟩

theorem search_row (N sc : Nat) (so : Option Addr) (l : List Int) (a : Int) (w : World) (hl : l.length ≤ 4000000) (hr : Rise l) (hs : w.ownsRow N 2 1 (.slice so l.length sc) l.length (numV l)) :
    Calls Tryd.prog 57 #[.slice so l.length sc, .int .i64 a] w fun e w' => e = .returned (.tuple #[.int .i64 (below l a : Nat), .bool (decide (a ∈ l))]) ∧ ∃ q, w' = w.drewN q := by
  rcases hs.2 with ⟨e, h0⟩ | ⟨g, cap, cur, e, hg, hb, h1, h2, h3, h4⟩
  · have := len0 h0
    subst this
    obtain ⟨rfl, _, rfl⟩ := Value.slice.inj e
    refine (search_nil a w).mono ?_
    rintro e' w' ⟨rfl, q, rfl⟩
    exact ⟨rfl, q, rfl⟩
  · obtain ⟨rfl, _, rfl⟩ := Value.slice.inj e
    have hn := owned_nums hs
    have h := AnyG.slices_BinarySearch_int Tryd.lsearch g 0 l.length sc l a w (Nat.le_refl _) (by omega) (fun j hj => by
        rcases hn with ⟨e5, _⟩ | ⟨g2, o2, c2, cur2, e5, _, hb2, _, _, hx⟩
        · cases (Value.slice.inj e5).1
        · cases (Value.slice.inj e5).1
          rw [cell_of hb2]
          exact hx j hj)
      (by rw [List.take_length]; exact hr.imp (fun h => Int.le_of_lt h))
    rw [List.take_length] at h
    have h' : Calls Tryd.prog 57 #[.slice (some ⟨g, 0, none⟩) l.length sc, .int .i64 a] w _ := h
    refine h'.mono ?_
    rintro e' w' ⟨rfl, q, rfl⟩
    refine ⟨?_, q, rfl⟩
    congr 4
    simp
end Go.Proofs.YtfcaebceklhbkaaDoor
