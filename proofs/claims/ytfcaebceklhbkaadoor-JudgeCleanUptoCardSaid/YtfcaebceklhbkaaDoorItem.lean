/-
  Items as keys of a map.
-/
import Derived.Test.YtfcaebceklhbkaaDoorCount
import Derived.Test.YtfcaebceklhbkaaDoorWriters
namespace Go.Proofs.YtfcaebceklhbkaaDoor
open Go.RowKit Go.Maps Go.ChangeMaps
set_option linter.unusedVariables false

theorem laidOut : laidOutB Tryd.prog = true := by kernel_rfl
theorem keyed_item : Keyed Tryd.prog 73 := Keyed.of_law (deep_law_laid laidOut (m := 100) (by omega) (of_decide_eq_true (by kernel_rfl)) (by kernel_rfl) (by kernel_rfl))

def itemV (a b d : Int) : Value := .agg #[.int .i64 a, .int .i64 b, .int .i64 d]
theorem keyType_item : Tryd.prog.keyType 73 = true := by kernel_rfl
theorem size_types : ∃ m, Tryd.prog.types.size + 1 = m + 2 := ⟨Tryd.prog.types.size - 1, by
  have h : (1 ≤ Tryd.prog.types.size) := of_decide_eq_true (by kernel_rfl)
  omega⟩
theorem cells_item : Tryd.prog.cellsOf 73 = 3 := by kernel_rfl
theorem cells2 : Tryd.prog.cellsOf 2 = 1 := by kernel_rfl
theorem cells3 : Tryd.prog.cellsOf 3 = 1 := by kernel_rfl

theorem key_item_some (a b d : Int) (ha : In64 a) (hb : In64 b) (hd : In64 d) : ∃ kl, keyOf Tryd.prog 73 (itemV a b d) = some kl := by
  obtain ⟨m, hm⟩ := size_types
  unfold keyOf
  simp only [Tryd.underlying73, keyType_item, hm]
  simp [itemV, Value.formed, Tryd.underlying73, cells_item, Program.keyLits, Value.cells, cells2, cells3, Tryd.underlying2, Tryd.underlying3, ha.wf, hb.wf, hd.wf]
end Go.Proofs.YtfcaebceklhbkaaDoor
