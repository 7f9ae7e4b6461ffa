/-
  The contracts of SameNumbers, SameInts and SameAnswers at lists that are the same.
-/
import Derived.Test.YtfcaebceklhbkaaDoorMay
import Derived.Test.YtfcaebceklhbkaaDoorSameA
namespace Go.Proofs.YtfcaebceklhbkaaDoor
open Go.RowKit
set_option linter.unusedVariables false

theorem nums_cell {w : World} {ao : Option Addr} {n c i : Nat} {l : List Int} (h : Nums w (.slice ao n c) l) (hi : i < n) : l.length = n ∧ ∃ g o, ao = some ⟨g, o, none⟩ ∧ w.cell? ⟨g, o + i, none⟩ = some (.int .i64 (l.getD i 0)) := by
  obtain ⟨ao', c', e, h⟩ := h
  cases e
  refine ⟨rfl, ?_⟩
  rcases h with rfl | ⟨g, o, e, hc⟩
  · simp at hi
  · exact ⟨g, o, e, hc i hi⟩
theorem nums_len {w : World} {v : Value} {l : List Int} (h : Nums w v l) : ∃ ao c, v = .slice ao l.length c := by
  obtain ⟨ao, c, e, _⟩ := h
  exact ⟨ao, c, e⟩

set_option maxRecDepth 100000 in
set_option maxHeartbeats 4000000 in
theorem sameNums_walk (a b : Value) (l : List Int) (w : World) (ha : Nums w a l) (hb : Nums w b l) (hl : l.length ≤ 4000001) :
    Calls Tryd.prog 14 #[a, b] w fun e w' => e = .returned (.bool true) ∧ Below w.heap.size w w' := by
  obtain ⟨ao, ac, rfl⟩ := nums_len ha
  obtain ⟨bo, bc, rfl⟩ := nums_len hb
  have HA := Lib.hid ha
  have HB := Lib.hid hb
  clear ha hb
  generalize hn : l.length = n at *
  clear hn
  go_enter Tryd.func14, Tryd.ntmps14
  go_wp2_with fail
  go_loopw [5] (fun jv wr => ∃ j : Nat, j ≤ n ∧ jv = .int .i64 j ∧ Below w.heap.size w wr) (fun jv _ => n - (intOf jv).toNat)
  case atStart => exact ⟨0, by omega, rfl, Below.refl _ _⟩
  case round =>
    obtain ⟨j, hj, rfl, hlow⟩ := hrel
    have HL := Lib.hid hlow
    by_cases hlt : j < n
    · obtain ⟨_, ga, oa, rfl, hca⟩ := nums_cell HA.out hlt
      obtain ⟨_, gb, ob, rfl, hcb⟩ := nums_cell HB.out hlt
      have h1 := (hlow.cell (p := ⟨ga, oa + j, none⟩) (World.block_lt_of_cell? w _ hca)).trans hca
      have h2 := (hlow.cell (p := ⟨gb, ob + j, none⟩) (World.block_lt_of_cell? w _ hcb)).trans hcb
      clear hlow hca hcb
      generalize l.getD j 0 = x at *
      go_wp2_with (go_quiet (fail))
      go_roundw
      case rel => exact ⟨j + 1, by omega, by go_num, below_drewN HL.out _⟩
      case measure => simp [intOf]; omega
    · obtain rfl : j = n := by omega
      clear hlow
      go_wp2_with fail
      go_ret
      exact ⟨rfl, HL.out⟩
set_option maxRecDepth 100000 in
set_option maxHeartbeats 4000000 in
theorem sameInts_walk (a b : Value) (l : List Int) (w : World) (ha : Nums w a l) (hb : Nums w b l) (hl : l.length ≤ 4000001) :
    Calls Tryd.prog 19 #[a, b] w fun e w' => e = .returned (.bool true) ∧ Below w.heap.size w w' := by
  obtain ⟨ao, ac, rfl⟩ := nums_len ha
  obtain ⟨bo, bc, rfl⟩ := nums_len hb
  have HA := Lib.hid ha
  have HB := Lib.hid hb
  clear ha hb
  generalize hn : l.length = n at *
  clear hn
  go_enter Tryd.func19, Tryd.ntmps19
  go_wp2_with fail
  go_loopw [5] (fun jv wr => ∃ j : Nat, j ≤ n ∧ jv = .int .i64 j ∧ Below w.heap.size w wr) (fun jv _ => n - (intOf jv).toNat)
  case atStart => exact ⟨0, by omega, rfl, Below.refl _ _⟩
  case round =>
    obtain ⟨j, hj, rfl, hlow⟩ := hrel
    have HL := Lib.hid hlow
    by_cases hlt : j < n
    · obtain ⟨_, ga, oa, rfl, hca⟩ := nums_cell HA.out hlt
      obtain ⟨_, gb, ob, rfl, hcb⟩ := nums_cell HB.out hlt
      have h1 := (hlow.cell (p := ⟨ga, oa + j, none⟩) (World.block_lt_of_cell? w _ hca)).trans hca
      have h2 := (hlow.cell (p := ⟨gb, ob + j, none⟩) (World.block_lt_of_cell? w _ hcb)).trans hcb
      clear hlow hca hcb
      generalize l.getD j 0 = x at *
      go_wp2_with (go_quiet (fail))
      go_roundw
      case rel => exact ⟨j + 1, by omega, by go_num, below_drewN HL.out _⟩
      case measure => simp [intOf]; omega
    · obtain rfl : j = n := by omega
      clear hlow
      go_wp2_with fail
      go_ret
      exact ⟨rfl, HL.out⟩
set_option maxRecDepth 100000 in
set_option maxHeartbeats 4000000 in
theorem sameNums_nil (w : World) : Calls Tryd.prog 14 #[.slice none 0 0, .slice none 0 0] w fun e w' => e = .returned (.bool true) ∧ w' = w := by
  go_enter Tryd.func14, Tryd.ntmps14
  go_wp2_with fail
  go_loopw [5] (fun jv wr => jv = .int .i64 0 ∧ wr = w) (fun jv _ => 0)
  case atStart => exact ⟨rfl, rfl⟩
  case round =>
    obtain ⟨rfl, rfl⟩ := hrel
    go_wp2_with fail
    go_ret
    exact ⟨rfl, rfl⟩
set_option maxRecDepth 100000 in
set_option maxHeartbeats 4000000 in
theorem sameAns_walk (ga gb : Nat) (ok : Bool) (n : Int) (w : World) (ha : w.heap[ga]? = some (.cells #[.bool ok, .int .i64 n, .slice none 0 0] 26 (0, 0))) (hb : w.heap[gb]? = some (.cells #[.bool ok, .int .i64 n, .slice none 0 0] 26 (0, 0))) :
    Calls Tryd.prog 15 #[.slice (some ⟨ga, 0, none⟩) 1 1, .slice (some ⟨gb, 0, none⟩) 1 1] w fun e w' => e = .returned (.bool true) ∧ Below w.heap.size w w' := by
  have HA := Lib.hid ha
  have HB := Lib.hid hb
  clear ha hb
  have H14 := Lib.hid sameNums_nil
  go_enter Tryd.func15, Tryd.ntmps15
  go_wp2_with fail
  go_loopw [5] (fun jv wr => ∃ j : Nat, j ≤ 1 ∧ jv = .int .i64 j ∧ Below w.heap.size w wr) (fun jv _ => 1 - (intOf jv).toNat)
  case atStart => exact ⟨0, by omega, rfl, Below.refl _ _⟩
  case round =>
    obtain ⟨j, hj, rfl, hlow⟩ := hrel
    have HL := Lib.hid hlow
    by_cases hlt : j < 1
    · obtain rfl : j = 0 := by omega
      have ra := (hlow.block ga (Array.getElem?_eq_some_iff.1 HA.out).1).trans HA.out
      have rb := (hlow.block gb (Array.getElem?_eq_some_iff.1 HB.out).1).trans HB.out
      have a0 := (cell_of ra 0).trans rfl
      have a1 := (cell_of ra 1).trans rfl
      have a2 := (cell_of ra 2).trans rfl
      have b0 := (cell_of rb 0).trans rfl
      have b1 := (cell_of rb 1).trans rfl
      have b2 := (cell_of rb 2).trans rfl
      clear hlow ra rb
      go_wp2_with (go_quiet (first | (go_at_call 14; exact Calls.quiet_of_same (H14.out _))))
      go_roundw
      case rel => exact ⟨1, by omega, by go_num, below_drewN HL.out _⟩
      case measure => simp [intOf]
    · obtain rfl : j = 1 := by omega
      clear hlow
      go_wp2_with fail
      go_ret
      exact ⟨rfl, HL.out⟩
end Go.Proofs.YtfcaebceklhbkaaDoor
