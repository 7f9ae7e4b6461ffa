/-
  More arguments of this seat's laws, opened: operations by their numbers, bytes.
-/
import Derived.Test.YtfcaebceklhbkaaDoorG5
import Derived.Test.YtfcaebceklhbkaaDoorPlayed
namespace Go.Proofs.YtfcaebceklhbkaaDoor
open Go.ChangeShapes Go.WideShapes Go.ChangeAt Go.RowKit Go.Deep
set_option linter.unusedVariables false

section
variable {H : Type} {enc : TypeId × Value → H} {W : World} {held : Bool}

/-- A slice of operations, by their numbers. -/
theorem open_ops4 {n len cap : Nat} {ao : Option Addr} {d : DataW H} {p : List MemPlace} (h : DataW.trod enc Tryd.prog W 0 (fun _ => true) held n 23 [.slice ao len cap] = some (d, p)) :
    ∃ f : Nat → O4, OpsAt W ao len f ∧ (∀ i, i < len → Fits (f i).x ∧ Fits (f i).y) ∧ 5 * len + 1 ≤ Rows.uptoBulk d := by
  obtain ⟨D, hrow, hbk, _, _⟩ := open_flat Tryd.underlying23 cells31 (by omega) h
  rcases hrow with rfl | ⟨g, o, rfl, hrow⟩
  · refine ⟨fun _ => default, .inl rfl, fun i hi => by omega, ?_⟩
    have := bulks.one_le d
    omega
  · have each : ∀ i, i < len → ∃ x : O4, (W.cell? ⟨g, o + i * 4, none⟩ = some (.int .i64 x.k) ∧ W.cell? ⟨g, o + i * 4 + 1, none⟩ = some (.int .i64 x.x) ∧ W.cell? ⟨g, o + i * 4 + 2, none⟩ = some (.int .i64 x.y) ∧ W.cell? ⟨g, o + i * 4 + 3, none⟩ = some (.int .i64 x.z)) ∧ (Fits x.x ∧ Fits x.y) ∧ 5 ≤ Rows.uptoBulk (D i) := by
      intro i hi
      obtain ⟨cs, n', p', h1, _, h2⟩ := hrow i hi
      obtain ⟨q, a, b, d, rfl, w0, w1, w2, w3, hb⟩ := op_one h1
      exact ⟨⟨q, a, b, d⟩, ⟨h2 0 (by omega), h2 1 (by omega), h2 2 (by omega), h2 3 (by omega)⟩, ⟨w1, w2⟩, hb⟩
    obtain ⟨f, hf⟩ := choose_lt (α := O4) each
    refine ⟨f, .inr ⟨g, o, rfl, fun i hi => (hf i hi).1⟩, fun i hi => (hf i hi).2.1, ?_⟩
    have := bulk_each (k := 5) (D := D) (n := len) (fun i hi => (hf i hi).2.2)
    omega
theorem cells5 : Tryd.prog.cellsOf 5 = 1 := by kernel_rfl
/-- A slice of bytes. -/
theorem open_bytes {n len cap : Nat} {ao : Option Addr} {d : DataW H} {p : List MemPlace} (h : DataW.trod enc Tryd.prog W 0 (fun _ => true) held n 50 [.slice ao len cap] = some (d, p)) :
    ∃ f : Nat → Int, BytesAt W ao len f ∧ (∀ i, i < len → 0 ≤ f i ∧ f i < 256) ∧ len + 1 ≤ Rows.uptoBulk d := by
  obtain ⟨D, hrow, hbk, _, _⟩ := open_flat Tryd.underlying50 cells5 (by omega) h
  rcases hrow with rfl | ⟨g, o, rfl, hrow⟩
  · refine ⟨fun _ => 0, .inl rfl, fun i hi => by omega, ?_⟩
    have := bulks.one_le d
    omega
  · have each : ∀ i, i < len → ∃ z : Int, W.cell? ⟨g, o + i, none⟩ = some (.int .u8 z) ∧ (0 ≤ z ∧ z < 256) ∧ 1 ≤ Rows.uptoBulk (D i) := by
      intro i hi
      obtain ⟨cs, n', p', h1, _, h2⟩ := hrow i hi
      obtain ⟨z, rfl, hd, hw⟩ := DataW.trod_int Tryd.underlying5 h1
      have := h2 0 (by omega)
      simp at this
      have m0 : IntKind.u8.min = 0 := rfl
      have m1 : IntKind.u8.max = 255 := rfl
      simp only [Lit.wf, Bool.and_eq_true, decide_eq_true_eq] at hw
      exact ⟨z, this, by omega, bulks.one_le _⟩
    obtain ⟨f, hf⟩ := choose_lt (α := Int) each
    refine ⟨f, .inr ⟨g, o, rfl, fun i hi => ⟨(hf i hi).1, (hf i hi).2.1⟩⟩, fun i hi => (hf i hi).2.1, ?_⟩
    have := bulk_each (k := 1) (D := D) (n := len) (fun i hi => (hf i hi).2.2)
    omega
end
end Go.Proofs.YtfcaebceklhbkaaDoor
