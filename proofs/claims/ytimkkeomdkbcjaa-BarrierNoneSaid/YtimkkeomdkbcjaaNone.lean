/-
  The law BarrierNone (nil barriers and the zero one) returns true for every input. No condition.
-/
import Derived.Test.YtimkkeomdkbcjaaWaits
import Derived.Test.YtimkkeomdkbcjaaBridge
namespace Go.Proofs.Ytimkkeomdkbcjaa
open Go.RowKit
set_option linter.unusedVariables false

/-- The memory of the zero barrier and a counter. -/
def lay0 (N bb sb : Nat) : Lay := { N, bb, sb, sa := 0, sl := .slice none 0 0, k := 0, cap := 0, r := fun _ => 0, ao := fun _ => none, c := fun _ => 0, L := fun _ => [] }
theorem mem0 {w : World} {N bb sb : Nat} (h1 : w.heap[bb]? = some (.cells #[.slice none 0 0, .int .u32 0] 54 (0, 0))) (h2 : w.heap[sb]? = some (.cells #[.int .i64 0] 37 (0, 0))) (hb : N ≤ bb) (hs : N ≤ sb) :
    Mem (lay0 N bb sb) false (fun _ => 0) 0 w := by
  refine ⟨h1, fun h => absurd h (by simp [lay0]), h2, fun h => absurd h (by simp [lay0]), ?_, ?_, ?_, ?_, ?_, by simp [lay0], Nat.le_refl _, hb, hs, ?_⟩
  all_goals (intro i; intros; simp [lay0] at *)

set_option maxRecDepth 100000 in
set_option maxHeartbeats 2000000 in
theorem none_walk (Q tries way : Int) (w : World) : Calls Try.prog 6 #[.int .i64 Q, .int .i64 tries, .int .i64 way] w fun e w' => e = .returned (.bool true) ∧ Below w.heap.size w w' := by
  have CW := Lib.hid (waits_true w)
  have cases3 : (way < 1 ∨ 3 < way) ∨ (1 ≤ way ∧ way ≤ 3) := by omega
  go_enter Try.func6, Try.ntmps6
  go_wp2_with fail
  refine CW.out.mono ?_
  rintro e w1 ⟨rfl, hb1⟩
  have HB1 := Lib.hid hb1
  clear hb1
  rcases cases3 with hw | ⟨hw1, hw2⟩
  · rcases hw with hw | hw
    · go_wp2_with fail
      refine (wait_kind _ _ _ _ _ (.inl hw) _).mono ?_
      rintro e w2 ⟨rfl, rfl⟩
      have hbar : ((w1.alloc (.cells #[.int .i64 0] 37)).alloc (.cells #[.slice none 0 0, .int .u32 0] 54)).heap[w1.heap.size + 1]? = some (.cells #[.slice none 0 0, .int .u32 0] 54 (0, 0)) := get_new (by simp)
      have hst : ((w1.alloc (.cells #[.int .i64 0] 37)).alloc (.cells #[.slice none 0 0, .int .u32 0] 54)).heap[w1.heap.size]? = some (.cells #[.int .i64 0] 37 (0, 0)) := get_push (get_new rfl)
      have hM := mem0 (N := w1.heap.size) hbar hst (by omega) (Nat.le_refl _)
      have hc0 := cell_of hbar 0
      have hs0 := cell_of hst 0
      simp only [List.getElem?_toArray, List.getElem?_cons_zero] at hc0 hs0
      have HM := Lib.hid hM
      have HL : Hid (Below w.heap.size w ((w1.alloc (.cells #[.int .i64 0] 37)).alloc (.cells #[.slice none 0 0, .int .u32 0] 54))) := (HB1.out.alloc HB1.out.size _).alloc (by have := HB1.out.size; simp; omega) _
      clear hM hbar hst
      have HN : Hid (w.heap.size ≤ w1.heap.size) := HB1.out.size
      go_wp2_with fail
      generalize (w1.alloc (.cells #[.int .i64 0] 37)).alloc (.cells #[.slice none 0 0, .int .u32 0] 54) = W2 at *
      refine (wait_kind _ _ _ _ _ (.inl hw) _).mono ?_
      rintro e w3 ⟨rfl, rfl⟩
      go_wp2_with (first | (go_at_call 12; first | (with_reducible refine (limit_nil _ _).mono ?_; rintro e w4 ⟨rfl, rfl⟩) | (refine (limit_empty _ _ _ hc0).mono ?_; rintro e w4 ⟨rfl, rfl⟩)) | (go_at_call 14; with_reducible refine (alert_nil _ _).mono ?_; rintro e w4 ⟨rfl, rfl⟩) | (go_at_call 15; with_reducible refine (clear_nil _ _).mono ?_; rintro e w4 ⟨rfl, rfl⟩) | (go_at_call 13; with_reducible refine (alerted_nil _ _).mono ?_; rintro e w4 ⟨rfl, rfl⟩))
      have C1 := alerted HM.out true (by omega)
      generalize hY : lay0 w1.heap.size (w1.heap.size + 1) w1.heap.size = Y at *
      have hsv : sv Y true = .iface 35 (.pointer (some ⟨w1.heap.size, 0, none⟩)) := by rw [← hY]; rfl
      have hbb : Y.bb = w1.heap.size + 1 := by rw [← hY]; rfl
      have hNY : Y.N = w1.heap.size := by rw [← hY]; rfl
      have hsb : Y.sb = w1.heap.size := by rw [← hY]; rfl
      have HSV := Lib.hid hsv
      have HBB := Lib.hid hbb
      have HNY := Lib.hid hNY
      have HSB := Lib.hid hsb
      rw [hsv, hbb] at C1
      clear hY hsv hbb hNY hsb
      refine C1.mono ?_
      clear C1
      rintro e w5 ⟨rfl, hM5, hB5⟩
      have C2 := alertM hM5 true (by simp [inc])
      rw [HSV.out, HBB.out] at C2
      have HC2 := Lib.hid C2
      have HB5 := Lib.hid hB5
      clear C2 hM5 hB5 hc0 hs0
      go_wp2_with fail
      refine HC2.out.mono ?_
      rintro e w6 ⟨rfl, hM6, hB6⟩
      have C3 := alerted hM6 true (by simp [inc])
      rw [HSV.out, HBB.out] at C3
      have HC3 := Lib.hid C3
      have HB6 := Lib.hid hB6
      clear C3 hM6 hB6
      go_wp2_with fail
      refine HC3.out.mono ?_
      rintro e w7 ⟨rfl, hM7, hB7⟩
      have C4 := clearM hM7 true (by simp [inc])
      rw [HSV.out, HBB.out] at C4
      have HC4 := Lib.hid C4
      have HB7 := Lib.hid hB7
      clear C4 hM7 hB7
      go_wp2_with fail
      refine HC4.out.mono ?_
      rintro e w8 ⟨rfl, hM8, hB8⟩
      have HB8 := Lib.hid hB8
      have hs8 : w8.cell? ⟨w1.heap.size, 0, none⟩ = some (.int .i64 4) := by rw [← HSB.out, cell_of hM8.steps]; rfl
      clear hM8 hB8
      go_wp2
      go_ret
      have b5 := HB5.out; have b6 := HB6.out; have b7 := HB7.out; have b8 := HB8.out
      rw [HNY.out] at b5 b6 b7 b8
      exact ⟨rfl, (((HL.out.trans (b5.mono HN.out)).trans (b6.mono HN.out)).trans (b7.mono HN.out)).trans (b8.mono HN.out)⟩
    · have hw0 : ¬ way < 1 := by omega
      go_wp2_with fail
      refine (wait_kind _ _ _ _ _ (.inr hw) _).mono ?_
      rintro e w2 ⟨rfl, rfl⟩
      have hbar : ((w1.alloc (.cells #[.int .i64 0] 37)).alloc (.cells #[.slice none 0 0, .int .u32 0] 54)).heap[w1.heap.size + 1]? = some (.cells #[.slice none 0 0, .int .u32 0] 54 (0, 0)) := get_new (by simp)
      have hst : ((w1.alloc (.cells #[.int .i64 0] 37)).alloc (.cells #[.slice none 0 0, .int .u32 0] 54)).heap[w1.heap.size]? = some (.cells #[.int .i64 0] 37 (0, 0)) := get_push (get_new rfl)
      have hM := mem0 (N := w1.heap.size) hbar hst (by omega) (Nat.le_refl _)
      have hc0 := cell_of hbar 0
      have hs0 := cell_of hst 0
      simp only [List.getElem?_toArray, List.getElem?_cons_zero] at hc0 hs0
      have HM := Lib.hid hM
      have HL : Hid (Below w.heap.size w ((w1.alloc (.cells #[.int .i64 0] 37)).alloc (.cells #[.slice none 0 0, .int .u32 0] 54))) := (HB1.out.alloc HB1.out.size _).alloc (by have := HB1.out.size; simp; omega) _
      clear hM hbar hst
      have HN : Hid (w.heap.size ≤ w1.heap.size) := HB1.out.size
      go_wp2_with fail
      generalize (w1.alloc (.cells #[.int .i64 0] 37)).alloc (.cells #[.slice none 0 0, .int .u32 0] 54) = W2 at *
      refine (wait_kind _ _ _ _ _ (.inr hw) _).mono ?_
      rintro e w3 ⟨rfl, rfl⟩
      go_wp2_with (first | (go_at_call 12; first | (with_reducible refine (limit_nil _ _).mono ?_; rintro e w4 ⟨rfl, rfl⟩) | (refine (limit_empty _ _ _ hc0).mono ?_; rintro e w4 ⟨rfl, rfl⟩)) | (go_at_call 14; with_reducible refine (alert_nil _ _).mono ?_; rintro e w4 ⟨rfl, rfl⟩) | (go_at_call 15; with_reducible refine (clear_nil _ _).mono ?_; rintro e w4 ⟨rfl, rfl⟩) | (go_at_call 13; with_reducible refine (alerted_nil _ _).mono ?_; rintro e w4 ⟨rfl, rfl⟩))
      have C1 := alerted HM.out true (by omega)
      generalize hY : lay0 w1.heap.size (w1.heap.size + 1) w1.heap.size = Y at *
      have hsv : sv Y true = .iface 35 (.pointer (some ⟨w1.heap.size, 0, none⟩)) := by rw [← hY]; rfl
      have hbb : Y.bb = w1.heap.size + 1 := by rw [← hY]; rfl
      have hNY : Y.N = w1.heap.size := by rw [← hY]; rfl
      have hsb : Y.sb = w1.heap.size := by rw [← hY]; rfl
      have HSV := Lib.hid hsv
      have HBB := Lib.hid hbb
      have HNY := Lib.hid hNY
      have HSB := Lib.hid hsb
      rw [hsv, hbb] at C1
      clear hY hsv hbb hNY hsb
      refine C1.mono ?_
      clear C1
      rintro e w5 ⟨rfl, hM5, hB5⟩
      have C2 := alertM hM5 true (by simp [inc])
      rw [HSV.out, HBB.out] at C2
      have HC2 := Lib.hid C2
      have HB5 := Lib.hid hB5
      clear C2 hM5 hB5 hc0 hs0
      go_wp2_with fail
      refine HC2.out.mono ?_
      rintro e w6 ⟨rfl, hM6, hB6⟩
      have C3 := alerted hM6 true (by simp [inc])
      rw [HSV.out, HBB.out] at C3
      have HC3 := Lib.hid C3
      have HB6 := Lib.hid hB6
      clear C3 hM6 hB6
      go_wp2_with fail
      refine HC3.out.mono ?_
      rintro e w7 ⟨rfl, hM7, hB7⟩
      have C4 := clearM hM7 true (by simp [inc])
      rw [HSV.out, HBB.out] at C4
      have HC4 := Lib.hid C4
      have HB7 := Lib.hid hB7
      clear C4 hM7 hB7
      go_wp2_with fail
      refine HC4.out.mono ?_
      rintro e w8 ⟨rfl, hM8, hB8⟩
      have HB8 := Lib.hid hB8
      have hs8 : w8.cell? ⟨w1.heap.size, 0, none⟩ = some (.int .i64 4) := by rw [← HSB.out, cell_of hM8.steps]; rfl
      clear hM8 hB8
      go_wp2
      go_ret
      have b5 := HB5.out; have b6 := HB6.out; have b7 := HB7.out; have b8 := HB8.out
      rw [HNY.out] at b5 b6 b7 b8
      exact ⟨rfl, (((HL.out.trans (b5.mono HN.out)).trans (b6.mono HN.out)).trans (b7.mono HN.out)).trans (b8.mono HN.out)⟩
  · go_wp2_with fail
    refine (wait_nil _ _ _ _ hw1 hw2 _).mono ?_
    rintro e w2 ⟨rfl, rfl⟩
    have hbar : ((w1.alloc (.cells #[.int .i64 0] 37)).alloc (.cells #[.slice none 0 0, .int .u32 0] 54)).heap[w1.heap.size + 1]? = some (.cells #[.slice none 0 0, .int .u32 0] 54 (0, 0)) := get_new (by simp)
    have hst : ((w1.alloc (.cells #[.int .i64 0] 37)).alloc (.cells #[.slice none 0 0, .int .u32 0] 54)).heap[w1.heap.size]? = some (.cells #[.int .i64 0] 37 (0, 0)) := get_push (get_new rfl)
    have hM := mem0 (N := w1.heap.size) hbar hst (by omega) (Nat.le_refl _)
    have hc0 := cell_of hbar 0
    have hs0 := cell_of hst 0
    simp only [List.getElem?_toArray, List.getElem?_cons_zero] at hc0 hs0
    have HM := Lib.hid hM
    have HL : Hid (Below w.heap.size w ((w1.alloc (.cells #[.int .i64 0] 37)).alloc (.cells #[.slice none 0 0, .int .u32 0] 54))) := (HB1.out.alloc HB1.out.size _).alloc (by have := HB1.out.size; simp; omega) _
    clear hM hbar hst
    have HN : Hid (w.heap.size ≤ w1.heap.size) := HB1.out.size
    go_wp2_with fail
    generalize (w1.alloc (.cells #[.int .i64 0] 37)).alloc (.cells #[.slice none 0 0, .int .u32 0] 54) = W2 at *
    refine (wait_empty _ _ _ _ _ hw1 hw2 _ hc0).mono ?_
    rintro e w3 ⟨rfl, rfl⟩
    go_wp2_with (first | (go_at_call 12; first | (with_reducible refine (limit_nil _ _).mono ?_; rintro e w4 ⟨rfl, rfl⟩) | (refine (limit_empty _ _ _ hc0).mono ?_; rintro e w4 ⟨rfl, rfl⟩)) | (go_at_call 14; with_reducible refine (alert_nil _ _).mono ?_; rintro e w4 ⟨rfl, rfl⟩) | (go_at_call 15; with_reducible refine (clear_nil _ _).mono ?_; rintro e w4 ⟨rfl, rfl⟩) | (go_at_call 13; with_reducible refine (alerted_nil _ _).mono ?_; rintro e w4 ⟨rfl, rfl⟩))
    have C1 := alerted HM.out true (by omega)
    generalize hY : lay0 w1.heap.size (w1.heap.size + 1) w1.heap.size = Y at *
    have hsv : sv Y true = .iface 35 (.pointer (some ⟨w1.heap.size, 0, none⟩)) := by rw [← hY]; rfl
    have hbb : Y.bb = w1.heap.size + 1 := by rw [← hY]; rfl
    have hNY : Y.N = w1.heap.size := by rw [← hY]; rfl
    have hsb : Y.sb = w1.heap.size := by rw [← hY]; rfl
    have HSV := Lib.hid hsv
    have HBB := Lib.hid hbb
    have HNY := Lib.hid hNY
    have HSB := Lib.hid hsb
    rw [hsv, hbb] at C1
    clear hY hsv hbb hNY hsb
    refine C1.mono ?_
    clear C1
    rintro e w5 ⟨rfl, hM5, hB5⟩
    have C2 := alertM hM5 true (by simp [inc])
    rw [HSV.out, HBB.out] at C2
    have HC2 := Lib.hid C2
    have HB5 := Lib.hid hB5
    clear C2 hM5 hB5 hc0 hs0
    go_wp2_with fail
    refine HC2.out.mono ?_
    rintro e w6 ⟨rfl, hM6, hB6⟩
    have C3 := alerted hM6 true (by simp [inc])
    rw [HSV.out, HBB.out] at C3
    have HC3 := Lib.hid C3
    have HB6 := Lib.hid hB6
    clear C3 hM6 hB6
    go_wp2_with fail
    refine HC3.out.mono ?_
    rintro e w7 ⟨rfl, hM7, hB7⟩
    have C4 := clearM hM7 true (by simp [inc])
    rw [HSV.out, HBB.out] at C4
    have HC4 := Lib.hid C4
    have HB7 := Lib.hid hB7
    clear C4 hM7 hB7
    go_wp2_with fail
    refine HC4.out.mono ?_
    rintro e w8 ⟨rfl, hM8, hB8⟩
    have HB8 := Lib.hid hB8
    have hs8 : w8.cell? ⟨w1.heap.size, 0, none⟩ = some (.int .i64 4) := by rw [← HSB.out, cell_of hM8.steps]; rfl
    clear hM8 hB8
    go_wp2
    go_ret
    have b5 := HB5.out; have b6 := HB6.out; have b7 := HB7.out; have b8 := HB8.out
    rw [HNY.out] at b5 b6 b7 b8
    exact ⟨rfl, (((HL.out.trans (b5.mono HN.out)).trans (b6.mono HN.out)).trans (b7.mono HN.out)).trans (b8.mono HN.out)⟩
end Go.Proofs.Ytimkkeomdkbcjaa
