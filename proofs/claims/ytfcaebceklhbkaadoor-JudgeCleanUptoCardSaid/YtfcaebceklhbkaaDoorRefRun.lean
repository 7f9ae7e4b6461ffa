/-
  The contract of the document's Run: the faults of a run, in a row of the call's own.
-/
import Derived.Test.YtfcaebceklhbkaaDoorRun
namespace Go.Proofs.YtfcaebceklhbkaaDoor
open Go.RowKit
set_option linter.unusedVariables false

set_option maxRecDepth 100000 in
set_option maxHeartbeats 600000000000 in
theorem refRun_walk (ao : Option Addr) (n c : Nat) (S : List Seen4) (x : Int) (w : World) (h0 : SeenRow w ao S) (hSn : S.length = n) (hn : n ≤ 300000000000) :
    Calls Tryd.prog 25 #[.slice ao n c, .int .i64 x] w (DoneF 107 (runF S x) w) := by
  obtain ⟨i0, hi0, hz0, hz1, hz2⟩ := info_parts info107
  have H0 := Lib.hid h0
  have HSn := Lib.hid hSn
  clear h0 hSn
  generalize hN : w.heap.size = N at *
  have HN := Lib.hid hN
  clear hN
  go_enter Tryd.func25, Tryd.ntmps25
  go_wp2_with fail
  go_loopw [5, 6, 7] (fun v xv jv wr => ∃ j : Nat, j ≤ n ∧ jv = .int .i64 j ∧ xv = .int .i64 (runAt S x j).2 ∧ wr.ownsRow N 107 5 v (runAt S x j).1.length (fcells (runAt S x j).1) ∧ Below N w wr ∧ N ≤ wr.heap.size) (fun _ _ jv _ => n - (intOf jv).toNat)
  case atStart => exact ⟨0, by omega, rfl, rfl, World.ownsRow_nil _ _ _ _, Below.refl _ _, by have := HN.out; omega⟩
  case round =>
    obtain ⟨j, hj, rfl, rfl, hR, hB, hW⟩ := hrel
    have HR := Lib.hid hR
    have HB := Lib.hid hB
    have hlen := runAt_length S x j
    clear hR hB
    by_cases hlt : j < n
    · have hrow := H0.out.below (HB.out.mono (by have := HN.out; omega))
      obtain ⟨g, o, rfl, hc⟩ : ∃ g o, ao = some ⟨g, o, none⟩ ∧ ∀ i, i < n → wr.cell? ⟨g, o + i * 4, none⟩ = some (.int .i64 (S.getD i default).q) ∧ wr.cell? ⟨g, o + i * 4 + 1, none⟩ = some (.int .i64 (S.getD i default).a) ∧
          wr.cell? ⟨g, o + i * 4 + 2, none⟩ = some (.int .i64 (S.getD i default).b) ∧ wr.cell? ⟨g, o + i * 4 + 3, none⟩ = some (.int .i64 (S.getD i default).d) := by
        rcases hrow with h | ⟨g, o, h1, h2⟩
        · have := HSn.out; subst h; simp at this; omega
        · exact ⟨g, o, h1, by rw [← HSn.out]; exact h2⟩
      obtain ⟨c1, c2, c3, c4⟩ := hc j hlt
      have HC := Lib.hid hc
      clear hc hrow
      have HS : Hid (runAt S x (j + 1) = ((runAt S x j).1 ++ (if runKind S j (runAt S x j).2 = 0 then [] else [⟨runKind S j (runAt S x j).2, 0, j, (S.getD j default).q, (runAt S x j).2⟩]), wrap64 ((S.getD j default).q + 1))) := rfl
      have HK : Hid (runKind S j (runAt S x j).2 = if (S.getD j default).q > (runAt S x j).2 then 1 else if (S.getD j default).q < (runAt S x j).2 then (if 0 < j ∧ (S.getD (j - 1) default).q = (S.getD j default).q then 2 else 3) else 0) := rfl
      generalize (runAt S x j).1 = l at *
      generalize (runAt S x j).2 = y at *
      generalize runKind S j y = k at *
      have HSQ : Hid ((S.getD j default).q = (S.getD j default).q) := rfl
      generalize hq0 : (S.getD j default).q = q at *
      generalize (S.getD j default).a = a at *
      generalize (S.getD j default).b = b at *
      generalize (S.getD j default).d = d at *
      clear HSQ hq0
      rcases (by omega : q = y ∨ y < q ∨ (q < y ∧ j = 0) ∨ (q < y ∧ 0 < j)) with hq | hq | ⟨hq, hj0⟩ | ⟨hq, hj0⟩
      · subst hq
        have hk : k = 0 := by rw [HK.out]; simp
        have HS2 := Lib.hid (show runAt S x (j + 1) = (l, wrap64 (q + 1)) from by rw [hid_eq HS, hk]; simp)
        clear HK HS hk
        go_wp2_with fail
        go_roundw
        case rel => exact ⟨j + 1, by omega, by go_num, by rw [HS2.out], by rw [HS2.out]; exact HR.out.alloc _, HB.out.alloc hW _, by simp; omega⟩
        case measure => simp [intOf]; omega
      · have hk : k = 1 := by rw [HK.out]; simp; omega
        have HS2 := Lib.hid (show runAt S x (j + 1) = (l ++ [⟨k, 0, j, q, y⟩], wrap64 (q + 1)) from by rw [hid_eq HS, if_neg (by omega)])
        subst hk
        have HSX := Lib.hid (src_one wr (.cells (Flt.cells ⟨1, 0, j, q, y⟩).toArray 107) (Flt.cells ⟨1, 0, j, q, y⟩).toArray 107 5 rfl (flt_one _))
        have HOW := Lib.hid ((HR.out.alloc (.cells (Flt.cells ⟨1, 0, j, q, y⟩).toArray 107)).alloc (.cells (Flt.cells ⟨1, 0, j, q, y⟩).toArray 107))
        have HAD := Lib.hid (fun v' w' ha => row_add (f := ⟨1, 0, j, q, y⟩) (o := .cells (Flt.cells ⟨1, 0, j, q, y⟩).toArray 107) (v' := v') (w1 := w') (HB.out.alloc hW (.cells (Flt.cells ⟨1, 0, j, q, y⟩).toArray 107)) (by simp; omega) (HR.out.alloc (.cells (Flt.cells ⟨1, 0, j, q, y⟩).toArray 107)) ha)
        clear HK HS HC
        go_wp2_with (at_builtin; go_must (refine wpList_append_row rfl (.tmp 58) (.tmp 60) 60 rfl N 107 i0 _ 5 40 Tryd.underlying60 hi0 hz0 hz1 (by decide) hz2 rfl u5 l.length (fcells l) rfl HOW.out 1 (Flt.cells ⟨1, 0, j, q, y⟩) HSX.out ?l2 ?b2 ?n2 ?_); go_must (case l2 => (unfold maxLen; omega)); go_must (case b2 => omega); go_must (case n2 => (simp; omega)); intro v' w' ha; go_must (obtain ⟨hr1, hr2, hr3⟩ := HAD.out _ _ ha); have HR1 := Lib.hid hr1; have HR2 := Lib.hid hr2; clear hr1 hr2 ha)
        go_roundw
        case rel => exact ⟨j + 1, by omega, by go_num, by rw [HS2.out], by rw [HS2.out]; exact HR1.out, HR2.out, hr3⟩
        case measure => simp [intOf]; omega
      · have hk : k = 3 := by rw [HK.out, if_neg (by omega), if_pos hq, if_neg (fun h => by omega)]
        have hd0 : (j : Int) < 1 := by omega
        have HJ0 := Lib.hid hj0
        clear hj0
        have HS2 := Lib.hid (show runAt S x (j + 1) = (l ++ [⟨k, 0, j, q, y⟩], wrap64 (q + 1)) from by rw [hid_eq HS, if_neg (by omega)])
        subst hk
        have HSX := Lib.hid (src_one wr (.cells (Flt.cells ⟨3, 0, j, q, y⟩).toArray 107) (Flt.cells ⟨3, 0, j, q, y⟩).toArray 107 5 rfl (flt_one _))
        have HOW := Lib.hid ((HR.out.alloc (.cells (Flt.cells ⟨3, 0, j, q, y⟩).toArray 107)).alloc (.cells (Flt.cells ⟨3, 0, j, q, y⟩).toArray 107))
        have HAD := Lib.hid (fun v' w' ha => row_add (f := ⟨3, 0, j, q, y⟩) (o := .cells (Flt.cells ⟨3, 0, j, q, y⟩).toArray 107) (v' := v') (w1 := w') (HB.out.alloc hW (.cells (Flt.cells ⟨3, 0, j, q, y⟩).toArray 107)) (by simp; omega) (HR.out.alloc (.cells (Flt.cells ⟨3, 0, j, q, y⟩).toArray 107)) ha)
        clear HK HS HC
        go_wp2_with (at_builtin; go_must (refine wpList_append_row rfl (.tmp 58) (.tmp 60) 60 rfl N 107 i0 _ 5 40 Tryd.underlying60 hi0 hz0 hz1 (by decide) hz2 rfl u5 l.length (fcells l) rfl HOW.out 1 (Flt.cells ⟨3, 0, j, q, y⟩) HSX.out ?l2 ?b2 ?n2 ?_); go_must (case l2 => (unfold maxLen; omega)); go_must (case b2 => omega); go_must (case n2 => (simp; omega)); intro v' w' ha; go_must (obtain ⟨hr1, hr2, hr3⟩ := HAD.out _ _ ha); have HR1 := Lib.hid hr1; have HR2 := Lib.hid hr2; clear hr1 hr2 ha)
        go_roundw
        case rel => exact ⟨j + 1, by omega, by go_num, by rw [HS2.out], by rw [HS2.out]; exact HR1.out, HR2.out, hr3⟩
        case measure => simp [intOf]; omega
      · have hcp0 := (HC.out (j - 1) (by omega)).1
        have hcp : (wr.alloc (.cells #[.int .i64 0, .int .i64 0, .int .i64 j, .int .i64 q, .int .i64 y] 107)).cell? ⟨g, o + (j - 1) * 4, none⟩ = some (.int .i64 (S.getD (j - 1) default).q) :=
          (World.cell?_of_block (w := wr) (a := ⟨g, o + (j - 1) * 4, none⟩) (Below.heap_alloc _ _ _ (World.block_lt_of_cell? wr _ hcp0))).trans hcp0
        clear hcp0
        by_cases hqq : (S.getD (j - 1) default).q = q
        · rw [hqq] at hcp
          have hk : k = 2 := by rw [HK.out, if_neg (by omega), if_pos hq, if_pos ⟨hj0, hqq⟩]
          clear hqq
          have HS2 := Lib.hid (show runAt S x (j + 1) = (l ++ [⟨k, 0, j, q, y⟩], wrap64 (q + 1)) from by rw [hid_eq HS, if_neg (by omega)])
          subst hk
          have HSX := Lib.hid (src_one wr (.cells (Flt.cells ⟨2, 0, j, q, y⟩).toArray 107) (Flt.cells ⟨2, 0, j, q, y⟩).toArray 107 5 rfl (flt_one _))
          have HOW := Lib.hid ((HR.out.alloc (.cells (Flt.cells ⟨2, 0, j, q, y⟩).toArray 107)).alloc (.cells (Flt.cells ⟨2, 0, j, q, y⟩).toArray 107))
          have HAD := Lib.hid (fun v' w' ha => row_add (f := ⟨2, 0, j, q, y⟩) (o := .cells (Flt.cells ⟨2, 0, j, q, y⟩).toArray 107) (v' := v') (w1 := w') (HB.out.alloc hW (.cells (Flt.cells ⟨2, 0, j, q, y⟩).toArray 107)) (by simp; omega) (HR.out.alloc (.cells (Flt.cells ⟨2, 0, j, q, y⟩).toArray 107)) ha)
          clear HK HS HC
          go_wp2_with (at_builtin; go_must (refine wpList_append_row rfl (.tmp 58) (.tmp 60) 60 rfl N 107 i0 _ 5 40 Tryd.underlying60 hi0 hz0 hz1 (by decide) hz2 rfl u5 l.length (fcells l) rfl HOW.out 1 (Flt.cells ⟨2, 0, j, q, y⟩) HSX.out ?l2 ?b2 ?n2 ?_); go_must (case l2 => (unfold maxLen; omega)); go_must (case b2 => omega); go_must (case n2 => (simp; omega)); intro v' w' ha; go_must (obtain ⟨hr1, hr2, hr3⟩ := HAD.out _ _ ha); have HR1 := Lib.hid hr1; have HR2 := Lib.hid hr2; clear hr1 hr2 ha)
          go_roundw
          case rel => exact ⟨j + 1, by omega, by go_num, by rw [HS2.out], by rw [HS2.out]; exact HR1.out, HR2.out, hr3⟩
          case measure => simp [intOf]; omega
        · have hk : k = 3 := by rw [HK.out, if_neg (by omega), if_pos hq, if_neg (fun h => hqq h.2)]
          generalize (S.getD (j - 1) default).q = qp at *
          have HS2 := Lib.hid (show runAt S x (j + 1) = (l ++ [⟨k, 0, j, q, y⟩], wrap64 (q + 1)) from by rw [hid_eq HS, if_neg (by omega)])
          subst hk
          have HSX := Lib.hid (src_one wr (.cells (Flt.cells ⟨3, 0, j, q, y⟩).toArray 107) (Flt.cells ⟨3, 0, j, q, y⟩).toArray 107 5 rfl (flt_one _))
          have HOW := Lib.hid ((HR.out.alloc (.cells (Flt.cells ⟨3, 0, j, q, y⟩).toArray 107)).alloc (.cells (Flt.cells ⟨3, 0, j, q, y⟩).toArray 107))
          have HAD := Lib.hid (fun v' w' ha => row_add (f := ⟨3, 0, j, q, y⟩) (o := .cells (Flt.cells ⟨3, 0, j, q, y⟩).toArray 107) (v' := v') (w1 := w') (HB.out.alloc hW (.cells (Flt.cells ⟨3, 0, j, q, y⟩).toArray 107)) (by simp; omega) (HR.out.alloc (.cells (Flt.cells ⟨3, 0, j, q, y⟩).toArray 107)) ha)
          clear HK HS HC
          go_wp2_with (at_builtin; go_must (refine wpList_append_row rfl (.tmp 58) (.tmp 60) 60 rfl N 107 i0 _ 5 40 Tryd.underlying60 hi0 hz0 hz1 (by decide) hz2 rfl u5 l.length (fcells l) rfl HOW.out 1 (Flt.cells ⟨3, 0, j, q, y⟩) HSX.out ?l2 ?b2 ?n2 ?_); go_must (case l2 => (unfold maxLen; omega)); go_must (case b2 => omega); go_must (case n2 => (simp; omega)); intro v' w' ha; go_must (obtain ⟨hr1, hr2, hr3⟩ := HAD.out _ _ ha); have HR1 := Lib.hid hr1; have HR2 := Lib.hid hr2; clear hr1 hr2 ha)
          go_roundw
          case rel => exact ⟨j + 1, by omega, by go_num, by rw [HS2.out], by rw [HS2.out]; exact HR1.out, HR2.out, hr3⟩
          case measure => simp [intOf]; omega
    · obtain rfl : j = n := by omega
      go_wp2_with fail
      go_ret
      have h := HR.out
      exact ⟨_, rfl, by rw [runF, HSn.out, HN.out]; exact h, by rw [HN.out]; exact HB.out⟩
end Go.Proofs.YtfcaebceklhbkaaDoor
