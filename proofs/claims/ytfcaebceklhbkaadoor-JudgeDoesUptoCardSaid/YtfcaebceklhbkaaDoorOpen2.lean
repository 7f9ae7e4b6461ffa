/-
  More arguments of this seat's laws, opened: numbers, operations, calls.
-/
import Derived.Test.YtfcaebceklhbkaaDoorOpen
import Derived.Test.YtfcaebceklhbkaaDoorDoes
namespace Go.Proofs.YtfcaebceklhbkaaDoor
open Go.ChangeShapes Go.WideShapes Go.ChangeAt Go.RowKit Go.Deep
set_option linter.unusedVariables false

section
variable {H : Type} {enc : TypeId × Value → H} {W : World} {held : Bool}

theorem nil_cap {n : Nat} {t e : TypeId} {len cap : Nat} {ao : Option Addr} {d : DataW H} {p : List MemPlace} (ht : Tryd.prog.underlying t = some (.slice e))
    (h : DataW.trod enc Tryd.prog W 0 (fun _ => true) held n t [.slice ao len cap] = some (d, p)) : (ao = none → len = 0 ∧ cap = 0) ∧ len ≤ 9223372036854775807 := by
  rcases open_slice ht h with ⟨hcs, hd⟩ | ⟨a, l, c, m, n', D, Pl, hcs, _, hl, hm, hmm, hd, hx⟩
  · cases hcs; exact ⟨fun _ => ⟨rfl, rfl⟩, by omega⟩
  · cases hcs; exact ⟨(fun h => by cases h), by unfold maxLen at hm; omega⟩

/-- A slice of numbers. -/
theorem open_nums {n : Nat} {t e : TypeId} {len cap : Nat} {ao : Option Addr} {d : DataW H} {p : List MemPlace} (ht : Tryd.prog.underlying t = some (.slice e)) (he : Tryd.prog.underlying e = some (.int .i64)) (hc : Tryd.prog.cellsOf e = 1)
    (h : DataW.trod enc Tryd.prog W 0 (fun _ => true) held n t [.slice ao len cap] = some (d, p)) :
    ∃ l : List Int, l.length = len ∧ Nums W (.slice ao len cap) l ∧ SrcOf W 1 (.slice ao len cap) l.length (numV l) ∧ (∀ x ∈ l, In64 x) ∧ len + 1 ≤ Rows.uptoBulk d := by
  obtain ⟨hnil, hmax⟩ := nil_cap ht h
  obtain ⟨D, hrow, hbk, _, _⟩ := open_flat ht hc (by omega) h
  rcases hrow with rfl | ⟨g, o, rfl, hrow⟩
  · refine ⟨[], rfl, ⟨ao, cap, rfl, .inl rfl⟩, ⟨rfl, fun u hu => by simp [numV] at hu, ?_⟩, by simp, ?_⟩
    · cases ao with
      | none => obtain ⟨_, rfl⟩ := hnil rfl; exact .inl ⟨rfl, rfl⟩
      | some a => exact .inr ⟨a, cap, rfl, fun j u hj => by simp [numV] at hj⟩
    · have := bulks.one_le d
      omega
  · have each : ∀ i, i < len → ∃ z : Int, W.cell? ⟨g, o + i, none⟩ = some (.int .i64 z) ∧ In64 z ∧ 1 ≤ Rows.uptoBulk (D i) := by
      intro i hi
      obtain ⟨cs, n', p', h1, _, h2⟩ := hrow i hi
      obtain ⟨z, rfl, w0, hb⟩ := int_one (y := (D i, p')) he h1
      have := h2 0 (by omega)
      simp at this
      exact ⟨z, this, w0, by simp at hb; omega⟩
    obtain ⟨f, hf⟩ := choose_lt (α := Int) each
    have hg : ∀ i, i < len → ((List.range len).map f).getD i 0 = f i := fun i hi => by simp [List.getD, hi]
    have hlen : ((List.range len).map f).length = len := by simp
    have hN : Nums W (.slice (some ⟨g, o, none⟩) len cap) ((List.range len).map f) := ⟨_, cap, by rw [hlen], .inr ⟨g, o, rfl, fun i hi => by rw [hg i (by omega)]; exact (hf i (by omega)).1⟩⟩
    refine ⟨(List.range len).map f, hlen, hN, ?_, fun x hx => ?_, ?_⟩
    · have := nums_src (ad := ⟨g, o, none⟩) (c := cap) (l := (List.range len).map f) (by rw [hlen]; exact hN)
      rw [hlen] at this ⊢
      exact this
    · obtain ⟨i, hi, rfl⟩ := List.mem_map.1 hx
      exact (hf i (by simpa using hi)).2.1
    · have := bulk_each (k := 1) (D := D) (n := len) (fun i hi => (hf i hi).2.2)
      omega

theorem cells31 : Tryd.prog.cellsOf 31 = 4 := by kernel_rfl
theorem op_one {n : Nat} {cs : List Value} {y : DataW H × List MemPlace} (h : DataW.trod enc Tryd.prog W 0 (fun _ => true) held n 31 cs = some y) : ∃ q a b d, cs = [.int .i64 q, .int .i64 a, .int .i64 b, .int .i64 d] ∧ In64 q ∧ In64 a ∧ In64 b ∧ In64 d ∧ 5 ≤ Rows.uptoBulk y.1 := by
  obtain ⟨xs, m, _, hy, hl, hxl, hf⟩ := DataW.trod_struct Tryd.underlying31 h
  rw [cells31] at hl
  have hxl' : xs.length = 4 := hxl
  obtain ⟨v0, v1, v2, v3, rfl⟩ := len4 hl
  obtain ⟨x0, x1, x2, x3, rfl⟩ := len4 hxl'
  have g0 : DataW.trod enc Tryd.prog W 0 (fun _ => true) held m 3 (([v0, v1, v2, v3].drop 0).take (Tryd.prog.cellsOf 3)) = some x0 := hf 0 _ rfl
  have g1 : DataW.trod enc Tryd.prog W 0 (fun _ => true) held m 2 (([v0, v1, v2, v3].drop 1).take (Tryd.prog.cellsOf 2)) = some x1 := hf 1 _ rfl
  have g2 : DataW.trod enc Tryd.prog W 0 (fun _ => true) held m 2 (([v0, v1, v2, v3].drop 2).take (Tryd.prog.cellsOf 2)) = some x2 := hf 2 _ rfl
  have g3 : DataW.trod enc Tryd.prog W 0 (fun _ => true) held m 2 (([v0, v1, v2, v3].drop 3).take (Tryd.prog.cellsOf 2)) = some x3 := hf 3 _ rfl
  rw [cells2] at g1 g2 g3
  rw [cells3] at g0
  obtain ⟨q, e0, w0, b0⟩ := int_one Tryd.underlying3 (y := x0) g0
  obtain ⟨a, e1, w1, b1⟩ := int_one Tryd.underlying2 (y := x1) g1
  obtain ⟨b, e2, w2, b2⟩ := int_one Tryd.underlying2 (y := x2) g2
  obtain ⟨d, e3, w3, b3⟩ := int_one Tryd.underlying2 (y := x3) g3
  simp at e0 e1 e2 e3
  subst e0 e1 e2 e3
  refine ⟨q, a, b, d, rfl, w0, w1, w2, w3, ?_⟩
  rw [hy]
  simp only [List.map_cons, List.map_nil, Rows.uptoBulk, Rows.uptoBulkAll, b0, b1, b2, b3]
  omega
/-- A slice of operations. -/
theorem open_ops {n len cap : Nat} {ao : Option Addr} {d : DataW H} {p : List MemPlace} (h : DataW.trod enc Tryd.prog W 0 (fun _ => true) held n 23 [.slice ao len cap] = some (d, p)) :
    OpRow W ao len ∧ 5 * len + 1 ≤ Rows.uptoBulk d := by
  obtain ⟨D, hrow, hbk, _, _⟩ := open_flat Tryd.underlying23 cells31 (by omega) h
  rcases hrow with rfl | ⟨g, o, rfl, hrow⟩
  · refine ⟨.inl rfl, ?_⟩
    have := bulks.one_le d
    omega
  · have each : ∀ i, i < len → (∃ k a b c : Int, W.cell? ⟨g, o + i * 4, none⟩ = some (.int .i64 k) ∧ W.cell? ⟨g, o + i * 4 + 1, none⟩ = some (.int .i64 a) ∧ W.cell? ⟨g, o + i * 4 + 2, none⟩ = some (.int .i64 b) ∧ W.cell? ⟨g, o + i * 4 + 3, none⟩ = some (.int .i64 c)) ∧ 5 ≤ Rows.uptoBulk (D i) := by
      intro i hi
      obtain ⟨cs, n', p', h1, _, h2⟩ := hrow i hi
      obtain ⟨q, a, b, d, rfl, w0, w1, w2, w3, hb⟩ := op_one h1
      exact ⟨⟨q, a, b, d, h2 0 (by omega), h2 1 (by omega), h2 2 (by omega), h2 3 (by omega)⟩, hb⟩
    refine ⟨.inr ⟨g, o, rfl, fun i hi => (each i hi).1⟩, ?_⟩
    have := bulk_each (k := 5) (D := D) (n := len) (fun i hi => (each i hi).2)
    omega
end
end Go.Proofs.YtfcaebceklhbkaaDoor
